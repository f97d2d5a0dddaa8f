/- The walks of FoldBack and of what it calls, printed by gen.py. -/
import Derived.Test.YtdpokdaeekanjaaLgFoldP
import Derived.Test.YtdpokdaeekanjaaProg
set_option linter.unusedVariables false
namespace Go.Lg
open Go Go.Proofs
set_option maxRecDepth 100000
theorem fmix : Try.prog.follows .mixedOrders = true := by kernel_rfl
theorem ty3 : TyOk Try.prog 3 (.int .i64) 1 8 (.int .i64 0) := tyOk Try.underlying3 (by kernel_rfl)
theorem ty22 : TyOk Try.prog 22 (.int .u64) 1 8 (.int .u64 0) := tyOk Try.underlying22 (by kernel_rfl)
theorem ty23 : TyOk Try.prog 23 (.slice 22) 1 24 (.slice none 0 0) := tyOk Try.underlying23 (by kernel_rfl)
theorem ty25 : TyOk Try.prog 25 (.struct #[(Field.mk "Offset" 3 0 false "" "" 0), (Field.mk "Counts" 23 1 false "" "" 8)]) 2 32 (.agg #[(.int .i64 0), (.slice none 0 0)]) := tyOk Try.underlying25 (by kernel_rfl)
theorem ty27 : TyOk Try.prog 27 (.struct #[(Field.mk "Scale" 3 0 false "" "" 0), (Field.mk "Zero" 22 1 false "" "" 8), (Field.mk "Pos" 25 2 false "" "" 16), (Field.mk "Neg" 25 4 false "" "" 48)]) 6 80 (.agg #[(.int .i64 0), (.int .u64 0), (.int .i64 0), (.slice none 0 0), (.int .i64 0), (.slice none 0 0)]) := tyOk Try.underlying27 (by kernel_rfl)
theorem ty75 : TyOk Try.prog 75 (.array 2 25) 4 64 (.agg #[(.int .i64 0), (.slice none 0 0), (.int .i64 0), (.slice none 0 0)]) := tyOk Try.underlying75 (by kernel_rfl)
theorem ty82 : TyOk Try.prog 82 (.int .u64) 1 8 (.int .u64 0) := tyOk Try.underlying82 (by kernel_rfl)
theorem ty97 : TyOk Try.prog 97 (.array 2 27) 12 160 (.agg #[(.int .i64 0), (.int .u64 0), (.int .i64 0), (.slice none 0 0), (.int .i64 0), (.slice none 0 0), (.int .i64 0), (.int .u64 0), (.int .i64 0), (.slice none 0 0), (.int .i64 0), (.slice none 0 0)]) := tyOk Try.underlying97 (by kernel_rfl)
theorem ty98 : TyOk Try.prog 98 (.pointer 25) 1 8 (.pointer none) := tyOk Try.underlying98 (by kernel_rfl)
theorem ty99 : TyOk Try.prog 99 (.struct #[(Field.mk "to" 98 0 false "" "limnograph/fold" 0), (Field.mk "a" 25 1 false "" "limnograph/fold" 8), (Field.mk "b" 25 3 false "" "limnograph/fold" 40)]) 5 72 (.agg #[(.pointer none), (.int .i64 0), (.slice none 0 0), (.int .i64 0), (.slice none 0 0)]) := tyOk Try.underlying99 (by kernel_rfl)
theorem ty100 : TyOk Try.prog 100 (.slice 99) 1 24 (.slice none 0 0) := tyOk Try.underlying100 (by kernel_rfl)
theorem fo25_0 : FieldOk Try.prog 25 0 0 := fieldOk Try.underlying25 rfl rfl (by kernel_rfl)
theorem fo25_1 : FieldOk Try.prog 25 1 1 := fieldOk Try.underlying25 rfl rfl (by kernel_rfl)
theorem fo27_0 : FieldOk Try.prog 27 0 0 := fieldOk Try.underlying27 rfl rfl (by kernel_rfl)
theorem fo27_1 : FieldOk Try.prog 27 1 1 := fieldOk Try.underlying27 rfl rfl (by kernel_rfl)
theorem fo27_2 : FieldOk Try.prog 27 2 2 := fieldOk Try.underlying27 rfl rfl (by kernel_rfl)
theorem fo27_3 : FieldOk Try.prog 27 3 4 := fieldOk Try.underlying27 rfl rfl (by kernel_rfl)
theorem fo99_0 : FieldOk Try.prog 99 0 0 := fieldOk Try.underlying99 rfl rfl (by kernel_rfl)
theorem fo99_1 : FieldOk Try.prog 99 1 1 := fieldOk Try.underlying99 rfl rfl (by kernel_rfl)
theorem fo99_2 : FieldOk Try.prog 99 2 3 := fieldOk Try.underlying99 rfl rfl (by kernel_rfl)
theorem x64_58 : X64 Try.prog 58 := x64 Try.func58 (by kernel_rfl) rfl (by kernel_rfl) (by kernel_rfl)
theorem kok16 : CallOk Try.prog 16 := callOk Try.func16 (by kernel_rfl) rfl
theorem kok17 : CallOk Try.prog 17 := callOk Try.func17 (by kernel_rfl) rfl
theorem kok19 : CallOk Try.prog 19 := callOk Try.func19 (by kernel_rfl) rfl
theorem kok21 : CallOk Try.prog 21 := callOk Try.func21 (by kernel_rfl) rfl
theorem kok22 : CallOk Try.prog 22 := callOk Try.func22 (by kernel_rfl) rfl
theorem kok23 : CallOk Try.prog 23 := callOk Try.func23 (by kernel_rfl) rfl
theorem kok27 : CallOk Try.prog 27 := callOk Try.func27 (by kernel_rfl) rfl
theorem kok28 : CallOk Try.prog 28 := callOk Try.func28 (by kernel_rfl) rfl
theorem kok37 : CallOk Try.prog 37 := callOk Try.func37 (by kernel_rfl) rfl
theorem kok38 : CallOk Try.prog 38 := callOk Try.func38 (by kernel_rfl) rfl
theorem kok40 : CallOk Try.prog 40 := callOk Try.func40 (by kernel_rfl) rfl
theorem kok42 : CallOk Try.prog 42 := callOk Try.func42 (by kernel_rfl) rfl
theorem kok44 : CallOk Try.prog 44 := callOk Try.func44 (by kernel_rfl) rfl
theorem kok57 : CallOk Try.prog 57 := callOk Try.func57 (by kernel_rfl) rfl
theorem kok60 : CallOk Try.prog 60 := callOk Try.func60 (by kernel_rfl) rfl
theorem kok62 : CallOk Try.prog 62 := callOk Try.func62 (by kernel_rfl) rfl
theorem kok64 : CallOk Try.prog 64 := callOk Try.func64 (by kernel_rfl) rfl
theorem kok65 : CallOk Try.prog 65 := callOk Try.func65 (by kernel_rfl) rfl
theorem kok71 : CallOk Try.prog 71 := callOk Try.func71 (by kernel_rfl) rfl
theorem kok73 : CallOk Try.prog 73 := callOk Try.func73 (by kernel_rfl) rfl
theorem kok98 : CallOk Try.prog 98 := callOk Try.func98 (by kernel_rfl) rfl

theorem c_ref08_Light {A : Nat → Prop} {v0_3 : Value} {v0_5 : Value} {a0 : api_Hist} {w : World} (hs0_3 : Sl Rep.u w A v0_3 a0.Pos.Counts) (hs0_5 : Sl Rep.u w A v0_5 a0.Neg.Counts) {r0 : Bool} (h : ref08_Light a0 = some r0) : Rets Try.prog 16 [.agg [vi a0.Scale, vu a0.Zero, vi a0.Pos.Offset, v0_3, vi a0.Neg.Offset, v0_5].toArray] w (fun v w' => v = .bool r0 ∧ Ext w w') := by
  unfold ref08_Light at h
  refine Rets.enter Try.func16 rfl rfl ?_
  have hf11 : Sl Rep.u w (imm (Lg.O0 A)) v0_3 a0.Pos.Counts := (Sl.start hs0_3)
  have hf12 : Sl Rep.u w (imm (Lg.O0 A)) v0_5 a0.Neg.Counts := (Sl.start hs0_5)
  refine (show WC _ _ _ _ [(0, .agg [vi a0.Scale, vu a0.Zero, vi a0.Pos.Offset, v0_3, vi a0.Neg.Offset, v0_5].toArray)] _ from ?_)
  refine WC.seq ?_
  refine WC.region ?_
  have hh16 := h
  obtain ⟨p13, m14, c15, rfl⟩ := hf11.shape
  have h := hh16
  have hh20 := h
  obtain ⟨p17, m18, c19, rfl⟩ := hf12.shape
  have h := hh20
  refine WL.box (O := (Lg.O0 A)) 11 [vi a0.Scale, vu a0.Zero, vi a0.Pos.Offset, (.slice p13 m14 c15), vi a0.Neg.Offset, (.slice p17 m18 c19)] rfl rfl rfl ?_
  intro p22 O23 wd24 hst25 hb21
  refine WL.y (Y.assign rfl) rfl ?_
  refine WL.nil ?_
  refine At.then ?_
  refine WC.seq ?_
  refine WC.region ?_
  refine WL.y (Y.fieldAddr fo27_2 rfl) rfl ?_
  refine WL.y (Y.fieldAddr fo25_1 rfl) rfl ?_
  refine WL.y (Y.loadSc ty23 rfl rfl (hb21.cell 3 _ rfl)) rfl ?_
  have hf26 := hf11.mono (imm_st hst25 rfl rfl)
  refine WL.y (Y.len ty23 rfl hf26) rfl ?_
  refine WL.y (Y.leq_i rfl rfl) rfl ?_
  refine WL.y (Y.move rfl) rfl ?_
  refine WL.cut 6 (σ := Unit) (fun _ w' => wd24 = w') (fun _ => [(14, .bool ((decide ((a0.Pos.Counts.length : Int) ≤ 300)) && (decide ((a0.Neg.Counts.length : Int) ≤ 300))))]) ?_ ?_
  · refine WL.part 8 rfl (fun hE27 => ?_) (fun hE27 => ?_)
    · refine WL.ung rfl rfl ?_
      refine WL.y (Y.fieldAddr fo27_3 rfl) rfl ?_
      refine WL.ung rfl rfl ?_
      refine WL.y (Y.fieldAddr fo25_1 rfl) rfl ?_
      refine WL.ung rfl rfl ?_
      refine WL.y (Y.loadSc ty23 rfl rfl (hb21.cell 5 _ rfl)) rfl ?_
      refine WL.ung rfl rfl ?_
      have hf28 := hf12.mono (imm_st hst25 rfl rfl)
      refine WL.y (Y.len ty23 rfl hf28) rfl ?_
      refine WL.ung rfl rfl ?_
      refine WL.y (Y.leq_i rfl rfl) rfl ?_
      refine WL.y (Y.pick (b := true) rfl rfl) rfl ?_
      refine WL.ren (v' := .bool ((decide ((a0.Pos.Counts.length : Int) ≤ 300)) && (decide ((a0.Neg.Counts.length : Int) ≤ 300)))) 14 rfl (congrArg Value.bool (andT hE27)) ?_
      exact WL.nil (At.join () rfl (.cons rfl .nil))
    · refine WL.gS rfl rfl rfl rfl ?_
      refine WL.gS rfl rfl rfl rfl ?_
      refine WL.gS rfl rfl rfl rfl ?_
      refine WL.gS rfl rfl rfl rfl ?_
      refine WL.gS rfl rfl rfl rfl ?_
      refine WL.y (Y.pick (b := false) rfl rfl) rfl ?_
      refine WL.ren (v' := .bool ((decide ((a0.Pos.Counts.length : Int) ≤ 300)) && (decide ((a0.Neg.Counts.length : Int) ≤ 300)))) 14 rfl (congrArg Value.bool (andF hE27)) ?_
      exact WL.nil (At.join () rfl (.cons rfl .nil))
  · rintro _ _ rfl
    refine (show WL _ _ _ _ _ [(14, .bool ((decide ((a0.Pos.Counts.length : Int) ≤ 300)) && (decide ((a0.Neg.Counts.length : Int) ≤ 300))))] _ from ?_)
    obtain ⟨t29, ht29, h⟩ := lt1 h
    refine WL.yE (Y.assign rfl) (congrArg Value.bool ht29.symm) rfl ?_
    refine WL.nil ?_
    refine At.then ?_
    refine WC.ret ?_
    obtain rfl := some1 h
    have hs30 : Stp [] (Lg.O0 A) w O23 wd24 := (Stp.up hst25 rfl)
    exact At.res (.inl rfl) rfl (.tmp rfl .nil) ⟨rfl, (Stp.ext hs30 rfl rfl)⟩

theorem c_hist_sides {A : Nat → Prop} {v0_3 : Value} {v0_5 : Value} {a0 : api_Hist} {w : World} (hs0_3 : Sl Rep.u w A v0_3 a0.Pos.Counts) (hs0_5 : Sl Rep.u w A v0_5 a0.Neg.Counts) {r0 : List api_Side} (h : hist_sides a0 = some r0) : Rets Try.prog 57 [.agg [vi a0.Scale, vu a0.Zero, vi a0.Pos.Offset, v0_3, vi a0.Neg.Offset, v0_5].toArray] w (fun v w' => ∃ (cs0 : List Value), v = .agg (List.toArray cs0) ∧ Ext w w' ∧ Rows' rep_api_Side w' (fun k => A k ∨ w.heap.size ≤ k) cs0 r0 ∧ r0.length = 2) := by
  unfold hist_sides at h
  refine Rets.enter Try.func57 rfl rfl ?_
  have hf11 : Sl Rep.u w (imm (Lg.O0 A)) v0_3 a0.Pos.Counts := (Sl.start hs0_3)
  have hf12 : Sl Rep.u w (imm (Lg.O0 A)) v0_5 a0.Neg.Counts := (Sl.start hs0_5)
  refine (show WC _ _ _ _ [(0, .agg [vi a0.Scale, vu a0.Zero, vi a0.Pos.Offset, v0_3, vi a0.Neg.Offset, v0_5].toArray)] _ from ?_)
  refine WC.seq ?_
  refine WC.region ?_
  have hh16 := h
  obtain ⟨p13, m14, c15, rfl⟩ := hf11.shape
  have h := hh16
  have hh20 := h
  obtain ⟨p17, m18, c19, rfl⟩ := hf12.shape
  have h := hh20
  refine WL.box (O := (Lg.O0 A)) 11 [vi a0.Scale, vu a0.Zero, vi a0.Pos.Offset, (.slice p13 m14 c15), vi a0.Neg.Offset, (.slice p17 m18 c19)] rfl rfl rfl ?_
  intro p22 O23 wd24 hst25 hb21
  refine WL.alloc (O := O23) 12 [vi 0, .slice none 0 0, vi 0, .slice none 0 0] ty75 rfl rfl ?_
  intro p27 O28 wd29 hst30 hb26
  refine WL.nil ?_
  refine At.then ?_
  refine WC.seq ?_
  refine WC.region ?_
  refine WL.y (Y.fieldAddr fo27_2 rfl) rfl ?_
  have hf31 := hb21.st hst30 rfl
  refine WL.y (Y.loadAg ty25 rfl rfl (hf31.cells 2 [vi a0.Pos.Offset, (.slice p13 m14 c15)] rfl) rfl) rfl ?_
  refine WL.y (Y.fieldAddr fo27_3 rfl) rfl ?_
  refine WL.y (Y.loadAg ty25 rfl rfl (hf31.cells 4 [vi a0.Neg.Offset, (.slice p17 m18 c19)] rfl) rfl) rfl ?_
  refine WL.y (Y.build (vals := [(0, .agg [vi a0.Pos.Offset, (.slice p13 m14 c15)].toArray), (1, .agg [vi a0.Neg.Offset, (.slice p17 m18 c19)].toArray)]) (cells := [vi a0.Pos.Offset, (.slice p13 m14 c15), vi a0.Neg.Offset, (.slice p17 m18 c19)]) (Fits.evalp rfl) (by kernel_rfl)) rfl ?_
  refine WL.store (v := .agg [vi a0.Pos.Offset, (.slice p13 m14 c15), vi a0.Neg.Offset, (.slice p17 m18 c19)].toArray) (cells' := [vi a0.Pos.Offset, (.slice p13 m14 c15), vi a0.Neg.Offset, (.slice p17 m18 c19)]) ty75 rfl rfl hb26 rfl (Nat.le_of_ble_eq_true rfl) rfl rfl ?_
  intro wd32 hst33 hb34
  refine WL.nil ?_
  refine At.then ?_
  refine WC.ret ?_
  obtain rfl := some1 h
  have hs35 : Stp [12] (Lg.O0 A) w O28 wd32 := (Stp.trans (Stp.up hst25 rfl) (Stp.trans (Stp.up hst30 rfl) (Stp.up hst33 rfl)))
  have hf36 := hf11.mono (imm_st hst25 rfl rfl)
  have hf37 := hf36.mono (imm_st hst30 rfl rfl)
  have hf38 := hf37.mono (imm_st hst33 rfl rfl)
  have hf39 := hf12.mono (imm_st hst25 rfl rfl)
  have hf40 := hf39.mono (imm_st hst30 rfl rfl)
  have hf41 := hf40.mono (imm_st hst33 rfl rfl)
  exact At.res (.inl rfl) rfl (.cell rfl (hb34.runAg 0 [vi a0.Pos.Offset, (.slice p13 m14 c15), vi a0.Neg.Offset, (.slice p17 m18 c19)] ty75 rfl rfl rfl) .nil) ⟨[vi a0.Pos.Offset, (.slice p13 m14 c15), vi a0.Neg.Offset, (.slice p17 m18 c19)], rfl, (Stp.ext hs35 rfl rfl), (Rows'.outI (O' := O28) (R := rep_api_Side) ⟨[vi a0.Pos.Offset, (.slice p13 m14 c15)], [vi a0.Neg.Offset, (.slice p17 m18 c19)], rfl, ⟨[vi a0.Pos.Offset], [(.slice p13 m14 c15)], rfl, rfl, ⟨_, rfl, hf38⟩⟩, ⟨[vi a0.Neg.Offset, (.slice p17 m18 c19)], [], rfl, ⟨[vi a0.Neg.Offset], [(.slice p17 m18 c19)], rfl, rfl, ⟨_, rfl, hf41⟩⟩, rfl⟩⟩ hs35 low0 O0_A), rfl⟩

theorem c_hist_Total {A : Nat → Prop} {v0_3 : Value} {v0_5 : Value} {a0 : api_Hist} {w : World} (hs0_3 : Sl Rep.u w A v0_3 a0.Pos.Counts) (hs0_5 : Sl Rep.u w A v0_5 a0.Neg.Counts) {r0 : UInt64} {r1 : Bool} (h : hist_Total a0 = some (r0, r1)) : Rets Try.prog 17 [.agg [vi a0.Scale, vu a0.Zero, vi a0.Pos.Offset, v0_3, vi a0.Neg.Offset, v0_5].toArray] w (fun v w' => v = .tuple (List.toArray [vu r0, .bool r1]) ∧ Ext w w') := by
  unfold hist_Total at h
  refine Rets.enter Try.func17 rfl rfl ?_
  have hf11 : Sl Rep.u w (imm (Lg.O0 A)) v0_3 a0.Pos.Counts := (Sl.start hs0_3)
  have hf12 : Sl Rep.u w (imm (Lg.O0 A)) v0_5 a0.Neg.Counts := (Sl.start hs0_5)
  refine (show WC _ _ _ _ [(0, .agg [vi a0.Scale, vu a0.Zero, vi a0.Pos.Offset, v0_3, vi a0.Neg.Offset, v0_5].toArray)] _ from ?_)
  refine WC.seq ?_
  refine WC.region ?_
  have hh16 := h
  obtain ⟨p13, m14, c15, rfl⟩ := hf11.shape
  have h := hh16
  have hh20 := h
  obtain ⟨p17, m18, c19, rfl⟩ := hf12.shape
  have h := hh20
  refine WL.box (O := (Lg.O0 A)) 11 [vi a0.Scale, vu a0.Zero, vi a0.Pos.Offset, (.slice p13 m14 c15), vi a0.Neg.Offset, (.slice p17 m18 c19)] rfl rfl rfl ?_
  intro p22 O23 wd24 hst25 hb21
  refine WL.y (Y.assign (v := vu 0) rfl) rfl ?_
  refine WL.y (Y.assign rfl) rfl ?_
  refine WL.nil ?_
  refine At.then ?_
  refine WC.seq ?_
  refine WC.region ?_
  refine WL.y (Y.fieldAddr fo27_1 rfl) rfl ?_
  refine WL.y (Y.loadSc ty22 rfl rfl (hb21.cell 1 _ rfl)) rfl ?_
  refine WL.y (Y.assign rfl) rfl ?_
  refine WL.y (Y.assign (v := vu 0) rfl) rfl ?_
  refine WL.nil ?_
  refine At.then ?_
  refine WC.seq ?_
  refine WC.seq ?_
  refine WC.region ?_
  refine WL.y (Y.loadAg ty27 rfl rfl (hb21.cells 0 [vi a0.Scale, vu a0.Zero, vi a0.Pos.Offset, (.slice p13 m14 c15), vi a0.Neg.Offset, (.slice p17 m18 c19)] rfl) rfl) rfl ?_
  have hf26 := hf11.mono (imm_st hst25 rfl rfl)
  have hf27 := hf12.mono (imm_st hst25 rfl rfl)
  obtain ⟨r28, hp29, h⟩ := bnd h
  refine WL.call (vals := [.agg [vi a0.Scale, vu a0.Zero, vi a0.Pos.Offset, (.slice p13 m14 c15), vi a0.Neg.Offset, (.slice p17 m18 c19)].toArray]) kok57 rfl rfl (c_hist_sides (A := imm O23) (a0 := a0) hf26 hf27 hp29) ?_
  rintro vr35 wd34 ⟨cs30, rfl, hm33, f31, f32⟩
  obtain ⟨O36, hold37, hnew38, hst39⟩ := adoptE O23 (fun k => 1) hm33
  have hf40 := Rows'.adoptI (O := O23) f31 (fun _ hk => hk) (fun _ _ => Nat.le_refl _) hold37 hnew38
  refine WL.y (Y.move rfl) rfl ?_
  refine WL.nil ?_
  refine At.then ?_
  obtain ⟨p46, h, hk47⟩ := bnd h
  refine WC.join (σ := (UInt64 × UInt64 × Own)) (fun x w' => (x.1, x.2.1) = p46 ∧ Stp [12] O36 wd34 x.2.2 w') (fun x => [(4, vu x.1), (5, vu x.2.1)]) ?_ ?_
  · refine WC.block ?_
    obtain ⟨p59, h, hk61⟩ := flow1 h
    obtain ⟨k60, h⟩ := loop_some h
    refine WC.joinB 0 (σ := (UInt64 × UInt64 × Own)) (fun x w' => p59 = .go (x.1, x.2.1) ∧ Stp [12] O36 wd34 x.2.2 w') (fun x => [(4, vu x.1), (5, vu x.2.1)]) ?_ ?_
    · refine WC.loop (σ := (UInt64 × UInt64 × Int × Own)) (fun x k w' => loopN k (hist_Total_lp1 r28) (x.1, x.2.1, x.2.2.1) = some p59 ∧ Stp [12] O36 wd34 x.2.2.2 w') (fun x => [(4, vu x.1), (5, vu x.2.1), (14, .agg cs30.toArray), (15, vi x.2.2.1)]) (a0.Zero, 0, 0, O36) k60 (.cons rfl (.cons rfl (.cons rfl (.cons rfl .nil)))) ⟨h, (Stp.refl _ _ _)⟩ ?_
      rintro ⟨sum48, over49, x50, O51⟩ k60 wd52 ⟨h, hst53⟩
      obtain ⟨j62, q63, rfl, h, hn64⟩ := rnd1 h
      unfold hist_Total_lp1 at h
      try dsimp only at h hst53
      refine (show WC _ _ _ _ [(4, vu sum48), (5, vu over49), (14, .agg cs30.toArray), (15, vi x50)] _ from ?_)
      refine WC.seq ?_
      refine WC.region ?_
      refine WL.y (Y.lss_i rfl rfl) rfl ?_
      refine WL.nil ?_
      refine At.then ?_
      refine WC.seq ?_
      rcases cnd h with ⟨hc65, h⟩ | ⟨hc65, h⟩
      · refine WC.condT' rfl hc65 ?_
        refine WC.skip ?_
        refine At.then ?_
        refine WC.seq ?_
        refine WC.block ?_
        refine WC.seq ?_
        refine WC.region ?_
        have hf66 := Rows'.mono (imm_st hst53 rfl rfl) hf40
        obtain ⟨e67, he67, h⟩ := bnd h
        obtain ⟨cs68, hcs69, hok70⟩ := arrAt (R := rep_api_Side) (w := wd52) (A := imm O51) (cells := cs30) hf66 he67
        obtain ⟨_, _, rfl, rfl, ⟨v71, rfl, hf72⟩⟩ := hok70
        replace hcs69 : _ = [vi e67.Offset, v71] := hcs69
        refine WL.y (Y.indexArrAg ty75 ty25 rfl rfl hcs69 he67 f32) rfl ?_
        refine WL.alloc (O := O51) 12 [vi 0, .slice none 0 0] ty25 rfl rfl ?_
        intro p74 O75 wd76 hst77 hb73
        have hf78 := hf72.mono (imm_st hst77 rfl rfl)
        have hh82 := h
        obtain ⟨p79, m80, c81, rfl⟩ := hf78.shape
        have h := hh82
        refine WL.store (v := .agg [vi e67.Offset, (.slice p79 m80 c81)].toArray) (cells' := [vi e67.Offset, (.slice p79 m80 c81)]) ty25 rfl rfl hb73 rfl (Nat.le_of_ble_eq_true rfl) rfl rfl ?_
        intro wd83 hst84 hb85
        refine WL.nil ?_
        refine At.then ?_
        refine WC.seq ?_
        refine WC.region ?_
        refine WL.y (Y.fieldAddr fo25_1 rfl) rfl ?_
        refine WL.y (Y.loadSc ty23 rfl rfl (hb85.cell 1 _ rfl)) rfl ?_
        have hf86 := hf78.mono (imm_st hst84 rfl rfl)
        refine WL.y (Y.len ty23 rfl hf86) rfl ?_
        refine WL.y (Y.move rfl) rfl ?_
        refine WL.nil ?_
        refine At.then ?_
        obtain ⟨p89, h, hk90⟩ := bnd h
        refine WC.join (σ := (UInt64 × UInt64)) (fun x w' => (x.1, x.2) = p89 ∧ wd83 = w') (fun x => [(4, vu x.1), (5, vu x.2), (14, .agg cs30.toArray), (15, vi x50)]) ?_ ?_
        · refine WC.block ?_
          obtain ⟨p96, h, hk98⟩ := flow1 h
          obtain ⟨k97, h⟩ := loop_some h
          refine WC.joinB 2 (σ := (UInt64 × UInt64)) (fun x w' => p96 = .go (x.1, x.2) ∧ wd83 = w') (fun x => [(4, vu x.1), (5, vu x.2), (14, .agg cs30.toArray), (15, vi x50)]) ?_ ?_
          · refine WC.loop (σ := (UInt64 × UInt64 × Int)) (fun x k w' => loopN k (hist_Total_lp2 e67) (x.1, x.2.1, x.2.2) = some p96 ∧ wd83 = w') (fun x => [(4, vu x.1), (5, vu x.2.1), (14, .agg cs30.toArray), (15, vi x50), (19, (.slice p79 m80 c81)), (20, vi (e67.Counts.length : Int)), (21, vi x.2.2)]) (sum48, over49, 0) k97 (.cons rfl (.cons rfl (.cons rfl (.cons rfl (.cons rfl (.cons rfl (.cons rfl .nil))))))) ⟨h, rfl⟩ ?_
            rintro ⟨sum91, over92, x93⟩ k97 _ ⟨h, rfl⟩
            obtain ⟨j99, q100, rfl, h, hn101⟩ := rnd1 h
            unfold hist_Total_lp2 at h
            try dsimp only at h
            refine (show WC _ _ _ _ [(4, vu sum91), (5, vu over92), (14, .agg cs30.toArray), (15, vi x50), (19, (.slice p79 m80 c81)), (20, vi (e67.Counts.length : Int)), (21, vi x93)] _ from ?_)
            refine WC.seq ?_
            refine WC.region ?_
            refine WL.y (Y.lss_i rfl rfl) rfl ?_
            refine WL.nil ?_
            refine At.then ?_
            refine WC.seq ?_
            rcases cnd h with ⟨hc102, h⟩ | ⟨hc102, h⟩
            · refine WC.condT' rfl hc102 ?_
              refine WC.skip ?_
              refine At.then ?_
              refine WC.seq ?_
              refine WC.block ?_
              refine WC.seq ?_
              refine WC.region ?_
              obtain ⟨e103, he103, h⟩ := bnd h
              obtain ⟨b104, off112, cap111, cs110, hv105, hi106, hl107, hc108, hok109, hA113⟩ := Sl.at2 hf86 he103
              obtain rfl := hok109
              replace hc108 : CellsAt _ _ _ [vu e103] := hc108
              have hca114 := CAt.imm hc108 hA113
              refine WL.y (Y.indexAddr ty23 ty22 rfl hv105 rfl hi106 hl107) rfl ?_
              refine WL.y (Y.loadSc ty22 rfl rfl hca114.at_) rfl ?_
              refine WL.y (Y.assign rfl) rfl ?_
              refine WL.nil ?_
              refine At.then ?_
              refine WC.seq ?_
              refine WC.region ?_
              refine WL.y (Y.assign (v := vu 0) rfl) rfl ?_
              refine WL.nil ?_
              refine At.then ?_
              refine WC.seq ?_
              refine WC.region ?_
              refine WL.y (Y.move rfl) rfl ?_
              refine WL.y (Y.move rfl) rfl ?_
              refine WL.y (Y.add64 (c := 0) x64_58 (by decide) rfl rfl rfl) rfl ?_
              refine WL.y (Y.move rfl) rfl ?_
              refine WL.y (Y.extract rfl rfl) rfl ?_
              refine WL.y (Y.extract rfl rfl) rfl ?_
              obtain ⟨sum115, hsum115, h⟩ := lt1 h
              refine WL.yE (Y.assign rfl) (congrArg vu hsum115.symm) rfl ?_
              obtain ⟨carry116, hcarry116, h⟩ := lt1 h
              refine WL.yE (Y.assign rfl) (congrArg vu hcarry116.symm) rfl ?_
              refine WL.nil ?_
              refine At.then ?_
              refine WC.region ?_
              refine WL.y (Y.move rfl) rfl ?_
              refine WL.y (Y.move rfl) rfl ?_
              refine WL.y (Y.or_u rfl rfl) rfl ?_
              obtain ⟨over117, hover117, h⟩ := lt1 h
              refine WL.yE (Y.assign rfl) (congrArg vu hover117.symm) rfl ?_
              refine WL.nil ?_
              refine At.inBlock ?_
              refine At.then ?_
              refine WC.region ?_
              refine WL.y (Y.add_i rfl rfl) rfl ?_
              refine WL.y (Y.move rfl) rfl ?_
              refine WL.nil ?_
              exact At.round (sum115, over117, w64 (x93 + 1)) j99 (Nat.lt_succ_self _) ⟨next1 h hn101, rfl⟩ (.cons rfl (.cons rfl (.cons rfl (.cons rfl (.cons rfl (.cons rfl (.cons rfl .nil)))))))
            · refine WC.condF' rfl hc102 ?_
              refine WC.exit ?_
              refine At.thenX ?_
              refine At.loopX ?_
              exact At.hitB (σ := (UInt64 × UInt64)) (sum91, over92) ⟨brk1 h hn101, rfl⟩ (.cons rfl (.cons rfl (.cons rfl (.cons rfl .nil))))
          · rintro ⟨sum94, over95⟩ _ ⟨rfl, rfl⟩
            replace h := flowK_go hk98
            try dsimp only at h
            refine (show At _ _ _ [(4, vu sum94), (5, vu over95), (14, .agg cs30.toArray), (15, vi x50)] _ from ?_)
            refine At.inBlockHit ?_
            exact At.join (σ := (UInt64 × UInt64)) (sum94, over95) ⟨some1 h, rfl⟩ (.cons rfl (.cons rfl (.cons rfl (.cons rfl .nil))))
        · rintro ⟨sum87, over88⟩ _ ⟨rfl, rfl⟩
          replace h := hk90
          try dsimp only at h
          refine (show At _ _ _ [(4, vu sum87), (5, vu over88), (14, .agg cs30.toArray), (15, vi x50)] _ from ?_)
          refine At.inBlock ?_
          refine At.then ?_
          refine WC.region ?_
          refine WL.y (Y.add_i rfl rfl) rfl ?_
          refine WL.y (Y.move rfl) rfl ?_
          refine WL.nil ?_
          exact At.round (sum87, over88, w64 (x50 + 1), O75) j62 (Nat.lt_succ_self _) ⟨next1 h hn64, (Stp.trans (Stp.up hst53 rfl) (Stp.trans (Stp.up hst77 rfl) (Stp.up hst84 rfl)))⟩ (.cons rfl (.cons rfl (.cons rfl (.cons rfl .nil))))
      · refine WC.condF' rfl hc65 ?_
        refine WC.exit ?_
        refine At.thenX ?_
        refine At.loopX ?_
        exact At.hitB (σ := (UInt64 × UInt64 × Own)) (sum48, over49, O51) ⟨brk1 h hn64, (Stp.up hst53 rfl)⟩ (.cons rfl (.cons rfl .nil))
    · rintro ⟨sum54, over55, O56⟩ wd57 ⟨rfl, hst58⟩
      replace h := flowK_go hk61
      try dsimp only at h hst58
      refine (show At _ _ _ [(4, vu sum54), (5, vu over55)] _ from ?_)
      refine At.inBlockHit ?_
      exact At.join (σ := (UInt64 × UInt64 × Own)) (sum54, over55, O56) ⟨some1 h, (Stp.up hst58 rfl)⟩ (.cons rfl (.cons rfl .nil))
  · rintro ⟨sum41, over42, O43⟩ wd44 ⟨rfl, hst45⟩
    replace h := hk47
    try dsimp only at h hst45
    refine (show At _ _ _ [(4, vu sum41), (5, vu over42)] _ from ?_)
    refine At.then ?_
    refine WC.seq ?_
    refine WC.seq ?_
    refine WC.region ?_
    refine WL.y (Y.move rfl) rfl ?_
    refine WL.y (Y.neq_u (b := 0) rfl rfl) rfl ?_
    refine WL.nil ?_
    refine At.then ?_
    rcases cnd h with ⟨hc118, h⟩ | ⟨hc118, h⟩
    · refine WC.condT' rfl hc118 ?_
      refine WC.seq ?_
      refine WC.region ?_
      refine WL.y (Y.assign (v := vu 0) rfl) rfl ?_
      refine WL.y (Y.assign rfl) rfl ?_
      refine WL.nil ?_
      refine At.then ?_
      refine WC.ret ?_
      refine At.thenR ?_
      obtain ⟨rfl, rfl⟩ := tup2 h
      have hs119 : Stp [12] (Lg.O0 A) w O43 wd44 := (Stp.trans (Stp.up hst25 rfl) (Stp.trans (Stp.up hst39 rfl) (Stp.up hst45 rfl)))
      exact At.res (.inl rfl) rfl (.tmp rfl (.tmp rfl .nil)) ⟨rfl, (Stp.ext hs119 rfl rfl)⟩
    · refine WC.condF' rfl hc118 ?_
      refine WC.skip ?_
      refine At.then ?_
      refine WC.seq ?_
      refine WC.region ?_
      refine WL.y (Y.move rfl) rfl ?_
      refine WL.y (Y.assign rfl) rfl ?_
      refine WL.y (Y.assign rfl) rfl ?_
      refine WL.nil ?_
      refine At.then ?_
      refine WC.ret ?_
      obtain ⟨rfl, rfl⟩ := tup2 h
      have hs120 : Stp [12] (Lg.O0 A) w O43 wd44 := (Stp.trans (Stp.up hst25 rfl) (Stp.trans (Stp.up hst39 rfl) (Stp.up hst45 rfl)))
      exact At.res (.inl rfl) rfl (.tmp rfl (.tmp rfl .nil)) ⟨rfl, (Stp.ext hs120 rfl rfl)⟩

theorem c_hist_check {A : Nat → Prop} {v0_1 : Value} {a0 : api_Side} {w : World} (hs0_1 : Sl Rep.u w A v0_1 a0.Counts) {r0 : Int} (h : hist_check a0 = some r0) : Rets Try.prog 60 [.agg [vi a0.Offset, v0_1].toArray] w (fun v w' => v = vi r0 ∧ Ext w w') := by
  unfold hist_check at h
  refine Rets.enter Try.func60 rfl rfl ?_
  have hf11 : Sl Rep.u w (imm (Lg.O0 A)) v0_1 a0.Counts := (Sl.start hs0_1)
  refine (show WC _ _ _ _ [(0, .agg [vi a0.Offset, v0_1].toArray)] _ from ?_)
  refine WC.seq ?_
  refine WC.region ?_
  have hh15 := h
  obtain ⟨p12, m13, c14, rfl⟩ := hf11.shape
  have h := hh15
  refine WL.box (O := (Lg.O0 A)) 11 [vi a0.Offset, (.slice p12 m13 c14)] rfl rfl rfl ?_
  intro p17 O18 wd19 hst20 hb16
  refine WL.y (Y.assign rfl) rfl ?_
  refine WL.nil ?_
  refine At.then ?_
  refine WC.seq ?_
  refine WC.region ?_
  refine WL.y (Y.fieldAddr fo25_1 rfl) rfl ?_
  refine WL.y (Y.loadSc ty23 rfl rfl (hb16.cell 1 _ rfl)) rfl ?_
  have hf21 := hf11.mono (imm_st hst20 rfl rfl)
  refine WL.y (Y.len ty23 rfl hf21) rfl ?_
  obtain ⟨nv22, hnv22, h⟩ := lt1 h
  refine WL.yE (Y.assign rfl) (congrArg vi hnv22.symm) rfl ?_
  refine WL.nil ?_
  refine At.then ?_
  refine WC.seq ?_
  refine WC.block ?_
  refine WC.seq ?_
  refine WC.region ?_
  refine WL.y (Y.move rfl) rfl ?_
  refine WL.y (Y.gtr_i rfl rfl) rfl ?_
  obtain ⟨t23, ht23, h⟩ := lt1 h
  refine WL.yE (Y.assign rfl) (congrArg Value.bool ht23.symm) rfl ?_
  refine WL.nil ?_
  refine At.then ?_
  rcases cnd h with ⟨hc24, h⟩ | ⟨hc24, h⟩
  · refine WC.condT' rfl hc24 ?_
    refine WC.seq ?_
    refine WC.region ?_
    refine WL.y (Y.assign rfl) rfl ?_
    refine WL.nil ?_
    refine At.then ?_
    refine WC.ret ?_
    refine At.inBlockR ?_
    refine At.thenR ?_
    obtain rfl := some1 h
    have hs25 : Stp [] (Lg.O0 A) w O18 wd19 := (Stp.up hst20 rfl)
    exact At.res (.inl rfl) rfl (.tmp rfl .nil) ⟨rfl, (Stp.ext hs25 rfl rfl)⟩
  · refine WC.condF' rfl hc24 ?_
    refine WC.seq ?_
    refine WC.region ?_
    refine WL.y (Y.move rfl) rfl ?_
    refine WL.y (Y.eql_i rfl rfl) rfl ?_
    refine WL.y (Y.move rfl) rfl ?_
    refine WL.cut 4 (σ := Unit) (fun _ w' => wd19 = w') (fun _ => [(1, .pointer (some ⟨p17, 0, none⟩)), (3, vi nv22), (17, .bool ((decide (nv22 = 0)) && (!decide (a0.Offset = 0))))]) ?_ ?_
    · refine WL.part 13 rfl (fun hE26 => ?_) (fun hE26 => ?_)
      · refine WL.ung rfl rfl ?_
        refine WL.y (Y.fieldAddr fo25_0 rfl) rfl ?_
        refine WL.ung rfl rfl ?_
        refine WL.y (Y.loadSc ty3 rfl rfl (hb16.cell 0 _ rfl)) rfl ?_
        refine WL.ung rfl rfl ?_
        refine WL.y (Y.neq_i rfl rfl) rfl ?_
        refine WL.y (Y.pick (b := true) rfl rfl) rfl ?_
        refine WL.ren (v' := .bool ((decide (nv22 = 0)) && (!decide (a0.Offset = 0)))) 17 rfl (congrArg Value.bool (andT hE26)) ?_
        exact WL.nil (At.join () rfl (.cons rfl (.cons rfl (.cons rfl .nil))))
      · refine WL.gS rfl rfl rfl rfl ?_
        refine WL.gS rfl rfl rfl rfl ?_
        refine WL.gS rfl rfl rfl rfl ?_
        refine WL.y (Y.pick (b := false) rfl rfl) rfl ?_
        refine WL.ren (v' := .bool ((decide (nv22 = 0)) && (!decide (a0.Offset = 0)))) 17 rfl (congrArg Value.bool (andF hE26)) ?_
        exact WL.nil (At.join () rfl (.cons rfl (.cons rfl (.cons rfl .nil))))
    · rintro _ _ rfl
      refine (show WL _ _ _ _ _ [(1, .pointer (some ⟨p17, 0, none⟩)), (3, vi nv22), (17, .bool ((decide (nv22 = 0)) && (!decide (a0.Offset = 0))))] _ from ?_)
      obtain ⟨t27, ht27, h⟩ := lt1 h
      refine WL.yE (Y.assign rfl) (congrArg Value.bool ht27.symm) rfl ?_
      refine WL.nil ?_
      refine At.then ?_
      rcases cnd h with ⟨hc28, h⟩ | ⟨hc28, h⟩
      · refine WC.condT' rfl hc28 ?_
        refine WC.seq ?_
        refine WC.region ?_
        refine WL.y (Y.assign rfl) rfl ?_
        refine WL.nil ?_
        refine At.then ?_
        refine WC.ret ?_
        refine At.inBlockR ?_
        refine At.thenR ?_
        obtain rfl := some1 h
        have hs29 : Stp [] (Lg.O0 A) w O18 wd19 := (Stp.up hst20 rfl)
        exact At.res (.inl rfl) rfl (.tmp rfl .nil) ⟨rfl, (Stp.ext hs29 rfl rfl)⟩
      · refine WC.condF' rfl hc28 ?_
        refine WC.seq ?_
        refine WC.region ?_
        refine WL.y (Y.move rfl) rfl ?_
        refine WL.y (Y.eql_i rfl rfl) rfl ?_
        obtain ⟨t30, ht30, h⟩ := lt1 h
        refine WL.yE (Y.assign rfl) (congrArg Value.bool ht30.symm) rfl ?_
        refine WL.nil ?_
        refine At.then ?_
        rcases cnd h with ⟨hc31, h⟩ | ⟨hc31, h⟩
        · refine WC.condT' rfl hc31 ?_
          refine WC.seq ?_
          refine WC.region ?_
          refine WL.y (Y.assign rfl) rfl ?_
          refine WL.nil ?_
          refine At.then ?_
          refine WC.ret ?_
          refine At.inBlockR ?_
          refine At.thenR ?_
          obtain rfl := some1 h
          have hs32 : Stp [] (Lg.O0 A) w O18 wd19 := (Stp.up hst20 rfl)
          exact At.res (.inl rfl) rfl (.tmp rfl .nil) ⟨rfl, (Stp.ext hs32 rfl rfl)⟩
        · refine WC.condF' rfl hc31 ?_
          refine WC.seq ?_
          refine WC.region ?_
          refine WL.y (Y.fieldAddr fo25_1 rfl) rfl ?_
          refine WL.y (Y.loadSc ty23 rfl rfl (hb16.cell 1 _ rfl)) rfl ?_
          obtain ⟨e33, he33, h⟩ := bnd h
          obtain ⟨b34, off42, cap41, cs40, hv35, hi36, hl37, hc38, hok39, hA43⟩ := Sl.at2 hf21 he33
          obtain rfl := hok39
          replace hc38 : CellsAt _ _ _ [vu e33] := hc38
          have hca44 := CAt.imm hc38 hA43
          refine WL.y (Y.indexAddr ty23 ty22 rfl hv35 rfl hi36 hl37) rfl ?_
          refine WL.y (Y.loadSc ty22 rfl rfl hca44.at_) rfl ?_
          refine WL.y (Y.eql_u (b := 0) rfl rfl) rfl ?_
          refine WL.y (Y.move rfl) rfl ?_
          obtain ⟨p46, h, hk47⟩ := bnd h
          refine WL.cut 8 (σ := Bool) (fun x w' => x = p46 ∧ wd19 = w') (fun x => [(1, .pointer (some ⟨p17, 0, none⟩)), (3, vi nv22), (35, .bool x)]) ?_ ?_
          · rcases cnd h with ⟨hE48, h⟩ | ⟨hE48, h⟩
            · refine WL.ren 27 rfl (congrArg Value.bool hE48) ?_
              refine WL.gS rfl rfl rfl rfl ?_
              refine WL.gS rfl rfl rfl rfl ?_
              refine WL.gS rfl rfl rfl rfl ?_
              refine WL.gS rfl rfl rfl rfl ?_
              refine WL.gS rfl rfl rfl rfl ?_
              refine WL.gS rfl rfl rfl rfl ?_
              refine WL.gS rfl rfl rfl rfl ?_
              refine WL.y (Y.pick (b := true) rfl rfl) rfl ?_
              exact WL.nil (At.join (σ := Bool) true ⟨some1 h, rfl⟩ (.cons rfl (.cons rfl (.cons rfl .nil))))
            · refine WL.ren 27 rfl (congrArg Value.bool hE48) ?_
              refine WL.ung rfl rfl ?_
              refine WL.y (Y.fieldAddr fo25_1 rfl) rfl ?_
              refine WL.ung rfl rfl ?_
              refine WL.y (Y.loadSc ty23 rfl rfl (hb16.cell 1 _ rfl)) rfl ?_
              refine WL.ung rfl rfl ?_
              refine WL.y (Y.move rfl) rfl ?_
              refine WL.ung rfl rfl ?_
              refine WL.y (Y.sub_i rfl rfl) rfl ?_
              refine WL.ung rfl rfl ?_
              obtain ⟨e49, he49, h⟩ := bnd h
              obtain ⟨b50, off58, cap57, cs56, hv51, hi52, hl53, hc54, hok55, hA59⟩ := Sl.at2 hf21 he49
              obtain rfl := hok55
              replace hc54 : CellsAt _ _ _ [vu e49] := hc54
              have hca60 := CAt.imm hc54 hA59
              refine WL.y (Y.indexAddr ty23 ty22 rfl hv51 rfl hi52 hl53) rfl ?_
              refine WL.ung rfl rfl ?_
              refine WL.y (Y.loadSc ty22 rfl rfl hca60.at_) rfl ?_
              refine WL.ung rfl rfl ?_
              refine WL.y (Y.eql_u (b := 0) rfl rfl) rfl ?_
              refine WL.y (Y.pick (b := false) rfl rfl) rfl ?_
              exact WL.nil (At.join (σ := Bool) (decide (e49 = 0)) ⟨some1 h, rfl⟩ (.cons rfl (.cons rfl (.cons rfl .nil))))
          · rintro x45 _ ⟨rfl, rfl⟩
            replace h := hk47
            try dsimp only at h
            refine (show WL _ _ _ _ _ [(1, .pointer (some ⟨p17, 0, none⟩)), (3, vi nv22), (35, .bool x45)] _ from ?_)
            refine WL.y (Y.assign rfl) rfl ?_
            refine WL.nil ?_
            refine At.then ?_
            rcases cnd h with ⟨hc61, h⟩ | ⟨hc61, h⟩
            · refine WC.condT' rfl hc61 ?_
              refine WC.seq ?_
              refine WC.region ?_
              refine WL.y (Y.assign rfl) rfl ?_
              refine WL.nil ?_
              refine At.then ?_
              refine WC.ret ?_
              refine At.inBlockR ?_
              refine At.thenR ?_
              obtain rfl := some1 h
              have hs62 : Stp [] (Lg.O0 A) w O18 wd19 := (Stp.up hst20 rfl)
              exact At.res (.inl rfl) rfl (.tmp rfl .nil) ⟨rfl, (Stp.ext hs62 rfl rfl)⟩
            · refine WC.condF' rfl hc61 ?_
              refine WC.seq ?_
              refine WC.region ?_
              refine WL.y (Y.fieldAddr fo25_0 rfl) rfl ?_
              refine WL.y (Y.loadSc ty3 rfl rfl (hb16.cell 0 _ rfl)) rfl ?_
              refine WL.y (Y.lss_i rfl rfl) rfl ?_
              refine WL.y (Y.move rfl) rfl ?_
              refine WL.cut 7 (σ := Unit) (fun _ w' => wd19 = w') (fun _ => [(47, .bool ((decide (a0.Offset < (-1073741824))) || (decide (w64 (1073741824 - (w64 (nv22 - 1))) < a0.Offset))))]) ?_ ?_
              · refine WL.part 40 rfl (fun hE63 => ?_) (fun hE63 => ?_)
                · refine WL.gS rfl rfl rfl rfl ?_
                  refine WL.gS rfl rfl rfl rfl ?_
                  refine WL.gS rfl rfl rfl rfl ?_
                  refine WL.gS rfl rfl rfl rfl ?_
                  refine WL.gS rfl rfl rfl rfl ?_
                  refine WL.gS rfl rfl rfl rfl ?_
                  refine WL.y (Y.pick (b := true) rfl rfl) rfl ?_
                  refine WL.ren (v' := .bool ((decide (a0.Offset < (-1073741824))) || (decide (w64 (1073741824 - (w64 (nv22 - 1))) < a0.Offset)))) 47 rfl (congrArg Value.bool (orT hE63)) ?_
                  exact WL.nil (At.join () rfl (.cons rfl .nil))
                · refine WL.ung rfl rfl ?_
                  refine WL.y (Y.fieldAddr fo25_0 rfl) rfl ?_
                  refine WL.ung rfl rfl ?_
                  refine WL.y (Y.loadSc ty3 rfl rfl (hb16.cell 0 _ rfl)) rfl ?_
                  refine WL.ung rfl rfl ?_
                  refine WL.y (Y.move rfl) rfl ?_
                  refine WL.ung rfl rfl ?_
                  refine WL.y (Y.sub_i rfl rfl) rfl ?_
                  refine WL.ung rfl rfl ?_
                  refine WL.y (Y.sub_i rfl rfl) rfl ?_
                  refine WL.ung rfl rfl ?_
                  refine WL.y (Y.gtr_i rfl rfl) rfl ?_
                  refine WL.y (Y.pick (b := false) rfl rfl) rfl ?_
                  refine WL.ren (v' := .bool ((decide (a0.Offset < (-1073741824))) || (decide (w64 (1073741824 - (w64 (nv22 - 1))) < a0.Offset)))) 47 rfl (congrArg Value.bool (orF hE63)) ?_
                  exact WL.nil (At.join () rfl (.cons rfl .nil))
              · rintro _ _ rfl
                refine (show WL _ _ _ _ _ [(47, .bool ((decide (a0.Offset < (-1073741824))) || (decide (w64 (1073741824 - (w64 (nv22 - 1))) < a0.Offset))))] _ from ?_)
                obtain ⟨t64, ht64, h⟩ := lt1 h
                refine WL.yE (Y.assign rfl) (congrArg Value.bool ht64.symm) rfl ?_
                refine WL.nil ?_
                refine At.then ?_
                rcases cnd h with ⟨hc65, h⟩ | ⟨hc65, h⟩
                · refine WC.condT' rfl hc65 ?_
                  refine WC.seq ?_
                  refine WC.region ?_
                  refine WL.y (Y.assign rfl) rfl ?_
                  refine WL.nil ?_
                  refine At.then ?_
                  refine WC.ret ?_
                  refine At.inBlockR ?_
                  refine At.thenR ?_
                  obtain rfl := some1 h
                  have hs66 : Stp [] (Lg.O0 A) w O18 wd19 := (Stp.up hst20 rfl)
                  exact At.res (.inl rfl) rfl (.tmp rfl .nil) ⟨rfl, (Stp.ext hs66 rfl rfl)⟩
                · refine WC.condF' rfl hc65 ?_
                  refine WC.skip ?_
                  refine At.inBlock ?_
                  refine At.then ?_
                  refine WC.seq ?_
                  refine WC.region ?_
                  refine WL.y (Y.assign rfl) rfl ?_
                  refine WL.nil ?_
                  refine At.then ?_
                  refine WC.ret ?_
                  obtain rfl := some1 h
                  have hs67 : Stp [] (Lg.O0 A) w O18 wd19 := (Stp.up hst20 rfl)
                  exact At.res (.inl rfl) rfl (.tmp rfl .nil) ⟨rfl, (Stp.ext hs67 rfl rfl)⟩

theorem c_hist_Check {A : Nat → Prop} {v0_3 : Value} {v0_5 : Value} {a0 : api_Hist} {w : World} (hs0_3 : Sl Rep.u w A v0_3 a0.Pos.Counts) (hs0_5 : Sl Rep.u w A v0_5 a0.Neg.Counts) {r0 : Int} (h : hist_Check a0 = some r0) : Rets Try.prog 19 [.agg [vi a0.Scale, vu a0.Zero, vi a0.Pos.Offset, v0_3, vi a0.Neg.Offset, v0_5].toArray] w (fun v w' => v = vi r0 ∧ Ext w w') := by
  unfold hist_Check at h
  refine Rets.enter Try.func19 rfl rfl ?_
  have hf11 : Sl Rep.u w (imm (Lg.O0 A)) v0_3 a0.Pos.Counts := (Sl.start hs0_3)
  have hf12 : Sl Rep.u w (imm (Lg.O0 A)) v0_5 a0.Neg.Counts := (Sl.start hs0_5)
  refine (show WC _ _ _ _ [(0, .agg [vi a0.Scale, vu a0.Zero, vi a0.Pos.Offset, v0_3, vi a0.Neg.Offset, v0_5].toArray)] _ from ?_)
  refine WC.seq ?_
  refine WC.region ?_
  have hh16 := h
  obtain ⟨p13, m14, c15, rfl⟩ := hf11.shape
  have h := hh16
  have hh20 := h
  obtain ⟨p17, m18, c19, rfl⟩ := hf12.shape
  have h := hh20
  refine WL.box (O := (Lg.O0 A)) 11 [vi a0.Scale, vu a0.Zero, vi a0.Pos.Offset, (.slice p13 m14 c15), vi a0.Neg.Offset, (.slice p17 m18 c19)] rfl rfl rfl ?_
  intro p22 O23 wd24 hst25 hb21
  refine WL.y (Y.assign rfl) rfl ?_
  refine WL.nil ?_
  refine At.then ?_
  refine WC.seq ?_
  refine WC.seq ?_
  refine WC.region ?_
  refine WL.y (Y.fieldAddr fo27_0 rfl) rfl ?_
  refine WL.y (Y.loadSc ty3 rfl rfl (hb21.cell 0 _ rfl)) rfl ?_
  refine WL.y (Y.lss_i rfl rfl) rfl ?_
  refine WL.y (Y.move rfl) rfl ?_
  refine WL.cut 4 (σ := Unit) (fun _ w' => wd24 = w') (fun _ => [(1, .pointer (some ⟨p22, 0, none⟩)), (15, .bool ((decide (a0.Scale < (-10))) || (decide (20 < a0.Scale))))]) ?_ ?_
  · refine WL.part 11 rfl (fun hE26 => ?_) (fun hE26 => ?_)
    · refine WL.gS rfl rfl rfl rfl ?_
      refine WL.gS rfl rfl rfl rfl ?_
      refine WL.gS rfl rfl rfl rfl ?_
      refine WL.y (Y.pick (b := true) rfl rfl) rfl ?_
      refine WL.ren (v' := .bool ((decide (a0.Scale < (-10))) || (decide (20 < a0.Scale)))) 15 rfl (congrArg Value.bool (orT hE26)) ?_
      exact WL.nil (At.join () rfl (.cons rfl (.cons rfl .nil)))
    · refine WL.ung rfl rfl ?_
      refine WL.y (Y.fieldAddr fo27_0 rfl) rfl ?_
      refine WL.ung rfl rfl ?_
      refine WL.y (Y.loadSc ty3 rfl rfl (hb21.cell 0 _ rfl)) rfl ?_
      refine WL.ung rfl rfl ?_
      refine WL.y (Y.gtr_i rfl rfl) rfl ?_
      refine WL.y (Y.pick (b := false) rfl rfl) rfl ?_
      refine WL.ren (v' := .bool ((decide (a0.Scale < (-10))) || (decide (20 < a0.Scale)))) 15 rfl (congrArg Value.bool (orF hE26)) ?_
      exact WL.nil (At.join () rfl (.cons rfl (.cons rfl .nil)))
  · rintro _ _ rfl
    refine (show WL _ _ _ _ _ [(1, .pointer (some ⟨p22, 0, none⟩)), (15, .bool ((decide (a0.Scale < (-10))) || (decide (20 < a0.Scale))))] _ from ?_)
    refine WL.nil ?_
    refine At.then ?_
    rcases cnd h with ⟨hc27, h⟩ | ⟨hc27, h⟩
    · refine WC.condT' rfl hc27 ?_
      refine WC.seq ?_
      refine WC.region ?_
      refine WL.y (Y.assign rfl) rfl ?_
      refine WL.nil ?_
      refine At.then ?_
      refine WC.ret ?_
      refine At.thenR ?_
      obtain rfl := some1 h
      have hs28 : Stp [] (Lg.O0 A) w O23 wd24 := (Stp.up hst25 rfl)
      exact At.res (.inl rfl) rfl (.tmp rfl .nil) ⟨rfl, (Stp.ext hs28 rfl rfl)⟩
    · refine WC.condF' rfl hc27 ?_
      refine WC.skip ?_
      refine At.then ?_
      refine WC.seq ?_
      refine WC.seq ?_
      refine WC.region ?_
      refine WL.y (Y.loadAg ty27 rfl rfl (hb21.cells 0 [vi a0.Scale, vu a0.Zero, vi a0.Pos.Offset, (.slice p13 m14 c15), vi a0.Neg.Offset, (.slice p17 m18 c19)] rfl) rfl) rfl ?_
      have hf29 := hf11.mono (imm_st hst25 rfl rfl)
      have hf30 := hf12.mono (imm_st hst25 rfl rfl)
      obtain ⟨r31, hp32, h⟩ := bnd h
      refine WL.call (vals := [.agg [vi a0.Scale, vu a0.Zero, vi a0.Pos.Offset, (.slice p13 m14 c15), vi a0.Neg.Offset, (.slice p17 m18 c19)].toArray]) kok57 rfl rfl (c_hist_sides (A := imm O23) (a0 := a0) hf29 hf30 hp32) ?_
      rintro vr38 wd37 ⟨cs33, rfl, hm36, f34, f35⟩
      obtain ⟨O39, hold40, hnew41, hst42⟩ := adoptE O23 (fun k => 1) hm36
      have hf43 := Rows'.adoptI (O := O23) f34 (fun _ hk => hk) (fun _ _ => Nat.le_refl _) hold40 hnew41
      refine WL.y (Y.move rfl) rfl ?_
      refine WL.nil ?_
      refine At.then ?_
      obtain ⟨p47, h, hk48⟩ := flow1 h
      refine WC.join (σ := Own) (fun x w' => p47 = .go () ∧ Stp [12] O39 wd37 x w') (fun x => [(1, .pointer (some ⟨p22, 0, none⟩))]) ?_ ?_
      · refine WC.block ?_
        obtain ⟨p56, h, hk58⟩ := flow1 h
        obtain ⟨k57, h⟩ := loop_some h
        refine WC.joinB 0 (σ := Own) (fun x w' => p56 = .go () ∧ Stp [12] O39 wd37 x w') (fun x => [(1, .pointer (some ⟨p22, 0, none⟩))]) ?_ ?_
        · refine WC.loop (σ := (Int × Own)) (fun x k w' => loopN k (hist_Check_lp1 r31) x.1 = some p56 ∧ Stp [12] O39 wd37 x.2 w') (fun x => [(1, .pointer (some ⟨p22, 0, none⟩)), (17, .agg cs33.toArray), (18, vi x.1)]) (0, O39) k57 (.cons rfl (.cons rfl (.cons rfl .nil))) ⟨h, (Stp.refl _ _ _)⟩ ?_
          rintro ⟨x49, O50⟩ k57 wd51 ⟨h, hst52⟩
          obtain ⟨j59, q60, rfl, h, hn61⟩ := rnd1 h
          unfold hist_Check_lp1 at h
          try dsimp only at h hst52
          refine (show WC _ _ _ _ [(1, .pointer (some ⟨p22, 0, none⟩)), (17, .agg cs33.toArray), (18, vi x49)] _ from ?_)
          refine WC.seq ?_
          refine WC.region ?_
          refine WL.y (Y.lss_i rfl rfl) rfl ?_
          refine WL.nil ?_
          refine At.then ?_
          refine WC.seq ?_
          rcases cnd h with ⟨hc62, h⟩ | ⟨hc62, h⟩
          · refine WC.condT' rfl hc62 ?_
            refine WC.skip ?_
            refine At.then ?_
            refine WC.seq ?_
            refine WC.block ?_
            refine WC.seq ?_
            refine WC.region ?_
            have hf63 := Rows'.mono (imm_st hst52 rfl rfl) hf43
            obtain ⟨e64, he64, h⟩ := bnd h
            obtain ⟨cs65, hcs66, hok67⟩ := arrAt (R := rep_api_Side) (w := wd51) (A := imm O50) (cells := cs33) hf63 he64
            obtain ⟨_, _, rfl, rfl, ⟨v68, rfl, hf69⟩⟩ := hok67
            replace hcs66 : _ = [vi e64.Offset, v68] := hcs66
            refine WL.y (Y.indexArrAg ty75 ty25 rfl rfl hcs66 he64 f35) rfl ?_
            refine WL.alloc (O := O50) 12 [vi 0, .slice none 0 0] ty25 rfl rfl ?_
            intro p71 O72 wd73 hst74 hb70
            have hf75 := hf69.mono (imm_st hst74 rfl rfl)
            have hh79 := h
            obtain ⟨p76, m77, c78, rfl⟩ := hf75.shape
            have h := hh79
            refine WL.store (v := .agg [vi e64.Offset, (.slice p76 m77 c78)].toArray) (cells' := [vi e64.Offset, (.slice p76 m77 c78)]) ty25 rfl rfl hb70 rfl (Nat.le_of_ble_eq_true rfl) rfl rfl ?_
            intro wd80 hst81 hb82
            refine WL.nil ?_
            refine At.then ?_
            refine WC.seq ?_
            refine WC.region ?_
            refine WL.y (Y.loadAg ty25 rfl rfl (hb82.cells 0 [vi e64.Offset, (.slice p76 m77 c78)] rfl) rfl) rfl ?_
            have hf83 := hf75.mono (imm_st hst81 rfl rfl)
            obtain ⟨r84, hp85, h⟩ := bnd h
            refine WL.call (vals := [.agg [vi e64.Offset, (.slice p76 m77 c78)].toArray]) kok60 rfl rfl (c_hist_check (A := fun _ => True) (a0 := e64) (Sl.all hf83) hp85) ?_
            rintro vr88 wd87 ⟨rfl, hm86⟩
            obtain ⟨O89, hold90, hnew91, hst92⟩ := adoptE O72 (fun k => 1) hm86
            refine WL.y (Y.assign rfl) rfl ?_
            refine WL.nil ?_
            refine At.then ?_
            refine WC.seq ?_
            refine WC.region ?_
            refine WL.y (Y.move rfl) rfl ?_
            refine WL.y (Y.neq_i rfl rfl) rfl ?_
            refine WL.nil ?_
            refine At.then ?_
            rcases cnd h with ⟨hc93, h⟩ | ⟨hc93, h⟩
            · refine WC.condT' rfl hc93 ?_
              refine WC.seq ?_
              refine WC.region ?_
              refine WL.y (Y.move rfl) rfl ?_
              refine WL.y (Y.assign rfl) rfl ?_
              refine WL.nil ?_
              refine At.then ?_
              refine WC.ret ?_
              refine At.inBlockR ?_
              refine At.thenR ?_
              refine At.loopR ?_
              have h := outr1 h hn61 hk58
              refine At.joinBR ?_
              refine At.inBlockR ?_
              have h := outs1 h hk48
              refine At.joinR ?_
              refine At.thenR ?_
              obtain rfl := some1 h
              have hs94 : Stp [12] (Lg.O0 A) w O89 wd87 := (Stp.trans (Stp.up hst25 rfl) (Stp.trans (Stp.up hst42 rfl) (Stp.trans (Stp.up hst52 rfl) (Stp.trans (Stp.up hst74 rfl) (Stp.trans (Stp.up hst81 rfl) (Stp.up hst92 rfl))))))
              exact At.res (.inl rfl) rfl (.tmp rfl .nil) ⟨rfl, (Stp.ext hs94 rfl rfl)⟩
            · refine WC.condF' rfl hc93 ?_
              refine WC.skip ?_
              refine At.inBlock ?_
              refine At.then ?_
              refine WC.region ?_
              refine WL.y (Y.add_i rfl rfl) rfl ?_
              refine WL.y (Y.move rfl) rfl ?_
              refine WL.nil ?_
              exact At.round (w64 (x49 + 1), O89) j59 (Nat.lt_succ_self _) ⟨next1 h hn61, (Stp.trans (Stp.up hst52 rfl) (Stp.trans (Stp.up hst74 rfl) (Stp.trans (Stp.up hst81 rfl) (Stp.up hst92 rfl))))⟩ (.cons rfl (.cons rfl (.cons rfl .nil)))
          · refine WC.condF' rfl hc62 ?_
            refine WC.exit ?_
            refine At.thenX ?_
            refine At.loopX ?_
            exact At.hitB (σ := Own) O50 ⟨brk1 h hn61, (Stp.up hst52 rfl)⟩ (.cons rfl .nil)
        · rintro O53 wd54 ⟨rfl, hst55⟩
          replace h := flowK_go hk58
          refine (show At _ _ _ [(1, .pointer (some ⟨p22, 0, none⟩))] _ from ?_)
          refine At.inBlockHit ?_
          exact At.join (σ := Own) O53 ⟨go2 h, (Stp.up hst55 rfl)⟩ (.cons rfl .nil)
      · rintro O44 wd45 ⟨rfl, hst46⟩
        replace h := flowK_go hk48
        refine (show At _ _ _ [(1, .pointer (some ⟨p22, 0, none⟩))] _ from ?_)
        refine At.then ?_
        refine WC.seq ?_
        refine WC.seq ?_
        refine WC.region ?_
        have hf95 := hb21.st hst42 rfl
        have hf96 := hf95.st hst46 rfl
        refine WL.y (Y.loadAg ty27 rfl rfl (hf96.cells 0 [vi a0.Scale, vu a0.Zero, vi a0.Pos.Offset, (.slice p13 m14 c15), vi a0.Neg.Offset, (.slice p17 m18 c19)] rfl) rfl) rfl ?_
        have hf97 := hf29.mono (imm_st hst42 rfl rfl)
        have hf98 := hf97.mono (imm_st hst46 rfl rfl)
        have hf99 := hf30.mono (imm_st hst42 rfl rfl)
        have hf100 := hf99.mono (imm_st hst46 rfl rfl)
        obtain ⟨⟨r101, r102⟩, hp103, h⟩ := bnd h
        refine WL.call (vals := [.agg [vi a0.Scale, vu a0.Zero, vi a0.Pos.Offset, (.slice p13 m14 c15), vi a0.Neg.Offset, (.slice p17 m18 c19)].toArray]) kok17 rfl rfl (c_hist_Total (A := fun _ => True) (a0 := a0) (Sl.all hf98) (Sl.all hf100) hp103) ?_
        rintro vr106 wd105 ⟨rfl, hm104⟩
        obtain ⟨O107, hold108, hnew109, hst110⟩ := adoptE O44 (fun k => 1) hm104
        refine WL.y (Y.move rfl) rfl ?_
        refine WL.y (Y.extract rfl rfl) rfl ?_
        refine WL.y (Y.extract rfl rfl) rfl ?_
        refine WL.y (Y.assign rfl) rfl ?_
        refine WL.y (Y.assign rfl) rfl ?_
        refine WL.nil ?_
        refine At.then ?_
        refine WC.seq ?_
        refine WC.region ?_
        refine WL.y (Y.move rfl) rfl ?_
        refine WL.y (Y.not rfl) rfl ?_
        refine WL.nil ?_
        refine At.then ?_
        rcases cnd h with ⟨hc111, h⟩ | ⟨hc111, h⟩
        · refine WC.condT' rfl hc111 ?_
          refine WC.seq ?_
          refine WC.region ?_
          refine WL.y (Y.assign rfl) rfl ?_
          refine WL.nil ?_
          refine At.then ?_
          refine WC.ret ?_
          refine At.thenR ?_
          obtain rfl := some1 h
          have hs112 : Stp [12] (Lg.O0 A) w O107 wd105 := (Stp.trans (Stp.up hst25 rfl) (Stp.trans (Stp.up hst42 rfl) (Stp.trans (Stp.up hst46 rfl) (Stp.up hst110 rfl))))
          exact At.res (.inl rfl) rfl (.tmp rfl .nil) ⟨rfl, (Stp.ext hs112 rfl rfl)⟩
        · refine WC.condF' rfl hc111 ?_
          refine WC.skip ?_
          refine At.then ?_
          refine WC.seq ?_
          refine WC.region ?_
          refine WL.y (Y.assign rfl) rfl ?_
          refine WL.nil ?_
          refine At.then ?_
          refine WC.ret ?_
          obtain rfl := some1 h
          have hs113 : Stp [12] (Lg.O0 A) w O107 wd105 := (Stp.trans (Stp.up hst25 rfl) (Stp.trans (Stp.up hst42 rfl) (Stp.trans (Stp.up hst46 rfl) (Stp.up hst110 rfl))))
          exact At.res (.inl rfl) rfl (.tmp rfl .nil) ⟨rfl, (Stp.ext hs113 rfl rfl)⟩

theorem c_hist_span {A : Nat → Prop} {v0_1 : Value} {a0 : api_Side} {a1 : UInt64} {w : World} (hs0_1 : Sl Rep.u w A v0_1 a0.Counts) {r0 : Int} (h : hist_span a0 a1 = some r0) : Rets Try.prog 64 [.agg [vi a0.Offset, v0_1].toArray, vu a1] w (fun v w' => v = vi r0 ∧ Ext w w') := by
  unfold hist_span at h
  refine Rets.enter Try.func64 rfl rfl ?_
  have hf11 : Sl Rep.u w (imm (Lg.O0 A)) v0_1 a0.Counts := (Sl.start hs0_1)
  refine (show WC _ _ _ _ [(0, .agg [vi a0.Offset, v0_1].toArray), (1, vu a1)] _ from ?_)
  refine WC.seq ?_
  refine WC.region ?_
  have hh15 := h
  obtain ⟨p12, m13, c14, rfl⟩ := hf11.shape
  have h := hh15
  refine WL.box (O := (Lg.O0 A)) 11 [vi a0.Offset, (.slice p12 m13 c14)] rfl rfl rfl ?_
  intro p17 O18 wd19 hst20 hb16
  refine WL.y (Y.assign rfl) rfl ?_
  refine WL.nil ?_
  refine At.then ?_
  refine WC.seq ?_
  refine WC.region ?_
  refine WL.y (Y.fieldAddr fo25_1 rfl) rfl ?_
  refine WL.y (Y.loadSc ty23 rfl rfl (hb16.cell 1 _ rfl)) rfl ?_
  have hf21 := hf11.mono (imm_st hst20 rfl rfl)
  refine WL.y (Y.len ty23 rfl hf21) rfl ?_
  obtain ⟨nv22, hnv22, h⟩ := lt1 h
  refine WL.yE (Y.assign rfl) (congrArg vi hnv22.symm) rfl ?_
  refine WL.nil ?_
  refine At.then ?_
  refine WC.seq ?_
  refine WC.seq ?_
  refine WC.region ?_
  refine WL.y (Y.move rfl) rfl ?_
  refine WL.y (Y.eql_i rfl rfl) rfl ?_
  refine WL.nil ?_
  refine At.then ?_
  rcases cnd h with ⟨hc23, h⟩ | ⟨hc23, h⟩
  · refine WC.condT' rfl hc23 ?_
    refine WC.seq ?_
    refine WC.region ?_
    refine WL.y (Y.assign rfl) rfl ?_
    refine WL.nil ?_
    refine At.then ?_
    refine WC.ret ?_
    refine At.thenR ?_
    obtain rfl := some1 h
    have hs24 : Stp [] (Lg.O0 A) w O18 wd19 := (Stp.up hst20 rfl)
    exact At.res (.inl rfl) rfl (.tmp rfl .nil) ⟨rfl, (Stp.ext hs24 rfl rfl)⟩
  · refine WC.condF' rfl hc23 ?_
    refine WC.skip ?_
    refine At.then ?_
    refine WC.seq ?_
    refine WC.region ?_
    refine WL.y (Y.fieldAddr fo25_0 rfl) rfl ?_
    refine WL.y (Y.loadSc ty3 rfl rfl (hb16.cell 0 _ rfl)) rfl ?_
    refine WL.y (Y.move rfl) rfl ?_
    refine WL.y (Y.add_i rfl rfl) rfl ?_
    refine WL.y (Y.sub_i rfl rfl) rfl ?_
    refine WL.y (Y.move rfl) rfl ?_
    refine WL.y (Y.shr_iu rfl rfl) rfl ?_
    refine WL.y (Y.fieldAddr fo25_0 rfl) rfl ?_
    refine WL.y (Y.loadSc ty3 rfl rfl (hb16.cell 0 _ rfl)) rfl ?_
    refine WL.y (Y.move rfl) rfl ?_
    refine WL.y (Y.shr_iu rfl rfl) rfl ?_
    refine WL.y (Y.sub_i rfl rfl) rfl ?_
    refine WL.y (Y.add_i rfl rfl) rfl ?_
    obtain ⟨t25, ht25, h⟩ := lt1 h
    refine WL.yE (Y.assign rfl) (congrArg vi ht25.symm) rfl ?_
    refine WL.nil ?_
    refine At.then ?_
    refine WC.ret ?_
    obtain rfl := some1 h
    have hs26 : Stp [] (Lg.O0 A) w O18 wd19 := (Stp.up hst20 rfl)
    exact At.res (.inl rfl) rfl (.tmp rfl .nil) ⟨rfl, (Stp.ext hs26 rfl rfl)⟩

theorem c_hist_down {A : Nat → Prop} {v0_1 : Value} {a0 : api_Side} {a1 : UInt64} {w : World} (hs0_1 : Sl Rep.u w A v0_1 a0.Counts) {r0 : api_Side} (h : hist_down a0 a1 = some r0) : Rets Try.prog 62 [.agg [vi a0.Offset, v0_1].toArray, vu a1] w (fun v w' => ∃ (u0_1 : Value), v = .agg (List.toArray [vi r0.Offset, u0_1]) ∧ Ext w w' ∧ Sl Rep.u w' (fun k => w.heap.size ≤ k) u0_1 r0.Counts) := by
  unfold hist_down at h
  refine Rets.enter Try.func62 rfl rfl ?_
  have hf11 : Sl Rep.u w (imm (Lg.O0 A)) v0_1 a0.Counts := (Sl.start hs0_1)
  refine (show WC _ _ _ _ [(0, .agg [vi a0.Offset, v0_1].toArray), (1, vu a1)] _ from ?_)
  refine WC.seq ?_
  refine WC.region ?_
  have hh15 := h
  obtain ⟨p12, m13, c14, rfl⟩ := hf11.shape
  have h := hh15
  refine WL.box (O := (Lg.O0 A)) 11 [vi a0.Offset, (.slice p12 m13 c14)] rfl rfl rfl ?_
  intro p17 O18 wd19 hst20 hb16
  refine WL.alloc (O := O18) 12 [vi 0, .slice none 0 0] ty25 rfl rfl ?_
  intro p22 O23 wd24 hst25 hb21
  refine WL.nil ?_
  refine At.then ?_
  refine WC.seq ?_
  refine WC.seq ?_
  refine WC.region ?_
  refine WL.y (Y.fieldAddr fo25_1 rfl) rfl ?_
  have hf26 := hb16.st hst25 rfl
  refine WL.y (Y.loadSc ty23 rfl rfl (hf26.cell 1 _ rfl)) rfl ?_
  have hf27 := hf11.mono (imm_st hst20 rfl rfl)
  have hf28 := hf27.mono (imm_st hst25 rfl rfl)
  refine WL.y (Y.len ty23 rfl hf28) rfl ?_
  refine WL.y (Y.eql_i rfl rfl) rfl ?_
  refine WL.nil ?_
  refine At.then ?_
  rcases cnd h with ⟨hc29, h⟩ | ⟨hc29, h⟩
  · refine WC.condT' rfl hc29 ?_
    refine WC.seq ?_
    refine WC.region ?_
    refine WL.y (Y.build (vals := []) (cells := [vi 0, .slice none 0 0]) (Fits.evalp rfl) (by kernel_rfl)) rfl ?_
    refine WL.store (v := .agg [vi 0, .slice none 0 0].toArray) (cells' := [vi 0, .slice none 0 0]) ty25 rfl rfl hb21 rfl (Nat.le_of_ble_eq_true rfl) rfl rfl ?_
    intro wd30 hst31 hb32
    refine WL.nil ?_
    refine At.then ?_
    refine WC.ret ?_
    refine At.thenR ?_
    obtain rfl := some1 h
    have hs33 : Stp [12] (Lg.O0 A) w O23 wd30 := (Stp.trans (Stp.up hst20 rfl) (Stp.trans (Stp.up hst25 rfl) (Stp.up hst31 rfl)))
    exact At.res (.inl rfl) rfl (.cell rfl (hb32.runAg 0 [vi 0, .slice none 0 0] ty25 rfl rfl rfl) .nil) ⟨.slice none 0 0, rfl, (Stp.ext hs33 rfl rfl), (Or.inl ⟨rfl, rfl⟩)⟩
  · refine WC.condF' rfl hc29 ?_
    refine WC.skip ?_
    refine At.then ?_
    refine WC.seq ?_
    refine WC.drawH [13, 14, 15, 16, 17, 18, 1001, 1002] [0, 1, 2, 3, 4, 5, 6, 7, 8, 9] O23 11 fmix rfl (by kernel_rfl) ?_
    intro wd34 hst35
    refine WD.y 0 rfl (by kernel_rfl) (fun _ _ _ => Y.fieldAddr fo25_0 rfl) rfl ?_
    refine WD.y 1 rfl (by kernel_rfl) (fun wd40 O39 hst41 => have hf42 := hf26.st hst35 rfl; have hf43 := hf42.st hst41 rfl; Y.loadSc ty3 rfl rfl (hf43.cell 0 _ rfl)) rfl ?_
    refine WD.y 2 rfl (by kernel_rfl) (fun _ _ _ => Y.move rfl) rfl ?_
    refine WD.y 3 rfl (by kernel_rfl) (fun _ _ _ => Y.shr_iu rfl rfl) rfl ?_
    refine WD.y 4 rfl (by kernel_rfl) (fun wd51 O50 hst52 => have hf53 := hf26.st hst35 rfl; have hf54 := hf53.st hst52 rfl; Y.loadAg ty25 rfl rfl (hf54.cells 0 [vi a0.Offset, (.slice p12 m13 c14)] rfl) rfl) rfl ?_
    refine WD.y 5 rfl (by kernel_rfl) (fun _ _ _ => Y.move rfl) rfl ?_
    obtain ⟨p66, h, hk67⟩ := bnd h
    refine WD.join (σ := (List UInt64 × Own × Nat × Value)) (f' := 1) [9, 8, 7, 6, 5, 4, 3, 2, 1, 0] (fun x O' w' => x.1 = p66 ∧ Stp [13, 14, 15, 16, 17, 18, 1001, 1002] O23 wd34 x.2.1 w' ∧ Blk 1003 x.2.1 w' x.2.2.1 25 [vi 0, .slice none 0 0] ∧ OwnSl 1004 Rep.u 22 x.2.1 w' x.2.2.2 x.1 ∧ x.2.1 = O') (fun x => [(1, vu a1), (2, .pointer (some ⟨p17, 0, none⟩)), (4, .pointer (some ⟨p22, 0, none⟩)), (5, .pointer (some ⟨x.2.2.1, 0, none⟩)), (21, .agg [vi (shrI a0.Offset a1.toNat), x.2.2.2].toArray)]) (fun hJ68 => ?_) ?_
    · refine WD.heavy2 6 9 rfl rfl (by kernel_rfl) ?_ ?_
      · have hf69 := hf28.mono (imm_st hst35 rfl rfl)
        obtain ⟨r70, hp71, h⟩ := bnd h
        refine WL.call (vals := [.agg [vi a0.Offset, (.slice p12 m13 c14)].toArray, vu a1]) kok64 rfl rfl (c_hist_span (A := fun _ => True) (a0 := a0) (Sl.all hf69) hp71) ?_
        rintro vr74 wd73 ⟨rfl, hm72⟩
        obtain ⟨O75, hold76, hnew77, hst78⟩ := adoptE O23 (fun k => 1) hm72
        refine WL.nil ?_
        refine At.dq (Stp.up hst78 rfl) ?_
        obtain ⟨p87, h, hk88⟩ := bnd h
        refine WD.join (σ := (List UInt64 × Own × Nat × Value)) (f' := 1) [9, 8, 7, 6, 5, 4, 3, 2, 1, 0] (fun x O' w' => x.1 = p87 ∧ Stp [13, 14, 15, 16] O75 wd73 x.2.1 w' ∧ Blk 1001 x.2.1 w' x.2.2.1 25 [vi 0, .slice none 0 0] ∧ OwnSl 1002 Rep.u 22 x.2.1 w' x.2.2.2 x.1 ∧ x.2.1 = O') (fun x => [(1, vu a1), (2, .pointer (some ⟨p17, 0, none⟩)), (4, .pointer (some ⟨p22, 0, none⟩)), (5, .pointer (some ⟨x.2.2.1, 0, none⟩)), (21, .agg [vi (shrI a0.Offset a1.toNat), x.2.2.2].toArray)]) (fun hJ89 => ?_) ?_
        · refine WD.heavy2 7 9 rfl rfl (by kernel_rfl) ?_ ?_
          · obtain ⟨t90, ht90, h⟩ := bnd h
            refine WL.make (O := O75) (R := Rep.u) (zx := (0 : UInt64)) 13 (by decide) ty23 ty22 rfl (by decide) (by decide) rfl rfl (fun _ _ => rfl) ht90 rfl ?_
            intro v91 O93 wd94 hst95 ho92
            refine WL.nil ?_
            refine At.dq (Stp.up hst95 rfl) ?_
            have hh99 := h
            obtain ⟨p96, m97, c98, rfl⟩ := ho92.shape
            have h := hh99
            refine WD.y 8 rfl (by kernel_rfl) (fun _ _ _ => Y.build (vals := [(0, vi (shrI a0.Offset a1.toNat)), (1, (.slice p96 m97 c98))]) (cells := [vi (shrI a0.Offset a1.toNat), (.slice p96 m97 c98)]) (Fits.evalp rfl) (by kernel_rfl)) rfl ?_
            refine WD.heavy 9 rfl (by kernel_rfl) ?_
            refine WL.alloc (O := O93) 14 [vi 0, .slice none 0 0] ty25 rfl rfl ?_
            intro p104 O105 wd106 hst107 hb103
            refine WL.nil ?_
            refine At.dq (Stp.up hst107 rfl) ?_
            obtain ⟨O108, hst109, hb110⟩ := Blk.rlb 1001 rfl hb103
            have hf111 := ho92.st hst107 rfl rfl rfl
            have hf112 := hf111.st hst109 rfl rfl rfl
            obtain ⟨O113, hst114, ho115⟩ := OwnSl.rlb 1002 rfl hf112
            have hf116 := hb110.st hst114 rfl
            refine WD.own (Stp.trans (Stp.up hst109 rfl) (Stp.up hst114 rfl)) ?_
            refine WD.perm _ [9, 8, 7, 6, 5, 4, 3, 2, 1, 0] (by kernel_rfl) ?_
            exact hJ89 (t90, O113, p104, (.slice p96 m97 c98)) _ _ _ ⟨some1 h, (Stp.trans (Stp.up hst95 rfl) (Stp.trans (Stp.up hst107 rfl) (Stp.trans (Stp.up hst109 rfl) (Stp.up hst114 rfl)))), hf116, ho115, rfl⟩ (.cons rfl (.cons rfl (.cons rfl (.cons rfl (.cons rfl .nil)))))
          · try simp only [Option.bind_assoc] at h
            try simp only [Option.bind_some] at h
            refine WL.alloc (O := O75) 15 [vi 0, .slice none 0 0] ty25 rfl rfl ?_
            intro p118 O119 wd120 hst121 hb117
            refine WL.nil ?_
            refine At.dq (Stp.up hst121 rfl) ?_
            refine WD.heavy 7 rfl (by kernel_rfl) ?_
            obtain ⟨t122, ht122, h⟩ := bnd h
            refine WL.make (O := O119) (R := Rep.u) (zx := (0 : UInt64)) 16 (by decide) ty23 ty22 rfl (by decide) (by decide) rfl rfl (fun _ _ => rfl) ht122 rfl ?_
            intro v123 O125 wd126 hst127 ho124
            refine WL.nil ?_
            refine At.dq (Stp.up hst127 rfl) ?_
            have hh131 := h
            obtain ⟨p128, m129, c130, rfl⟩ := ho124.shape
            have h := hh131
            refine WD.y 8 rfl (by kernel_rfl) (fun _ _ _ => Y.build (vals := [(0, vi (shrI a0.Offset a1.toNat)), (1, (.slice p128 m129 c130))]) (cells := [vi (shrI a0.Offset a1.toNat), (.slice p128 m129 c130)]) (Fits.evalp rfl) (by kernel_rfl)) rfl ?_
            have hf135 := hb117.st hst127 rfl
            obtain ⟨O136, hst137, hb138⟩ := Blk.rlb 1001 rfl hf135
            have hf139 := ho124.st hst137 rfl rfl rfl
            obtain ⟨O140, hst141, ho142⟩ := OwnSl.rlb 1002 rfl hf139
            have hf143 := hb138.st hst141 rfl
            refine WD.own (Stp.trans (Stp.up hst137 rfl) (Stp.up hst141 rfl)) ?_
            refine WD.perm _ [9, 8, 7, 6, 5, 4, 3, 2, 1, 0] (by kernel_rfl) ?_
            exact hJ89 (t122, O140, p118, (.slice p128 m129 c130)) _ _ _ ⟨some1 h, (Stp.trans (Stp.up hst121 rfl) (Stp.trans (Stp.up hst127 rfl) (Stp.trans (Stp.up hst137 rfl) (Stp.up hst141 rfl)))), hf143, ho142, rfl⟩ (.cons rfl (.cons rfl (.cons rfl (.cons rfl (.cons rfl .nil)))))
        · rintro ⟨x81, O84, b79, v82⟩ _ wd85 ⟨rfl, hst86, hb80, hf83, rfl⟩
          replace h := hk88
          try dsimp only at h hst86 hb80 hf83
          refine (show WD _ _ _ _ _ _ _ _ [(1, vu a1), (2, .pointer (some ⟨p17, 0, none⟩)), (4, .pointer (some ⟨p22, 0, none⟩)), (5, .pointer (some ⟨b79, 0, none⟩)), (21, .agg [vi (shrI a0.Offset a1.toNat), v82].toArray)] _ _ from ?_)
          obtain ⟨O144, hst145, hb146⟩ := Blk.rlb 1003 rfl hb80
          have hf147 := hf83.st hst145 rfl rfl rfl
          obtain ⟨O148, hst149, ho150⟩ := OwnSl.rlb 1004 rfl hf147
          have hf151 := hb146.st hst149 rfl
          refine WD.own (Stp.trans (Stp.up hst145 rfl) (Stp.up hst149 rfl)) ?_
          refine WD.perm _ [9, 8, 7, 6, 5, 4, 3, 2, 1, 0] (by kernel_rfl) ?_
          exact hJ68 (x81, O148, b79, v82) _ _ _ ⟨some1 h, (Stp.trans (Stp.up hst78 rfl) (Stp.trans (Stp.up hst86 rfl) (Stp.trans (Stp.up hst145 rfl) (Stp.up hst149 rfl)))), hf151, ho150, rfl⟩ (.cons rfl (.cons rfl (.cons rfl (.cons rfl (.cons rfl .nil)))))
      · try simp only [Option.bind_assoc] at h
        try simp only [Option.bind_some] at h
        refine WL.alloc (O := O23) 17 [vi 0, .slice none 0 0] ty25 rfl rfl ?_
        intro p153 O154 wd155 hst156 hb152
        refine WL.nil ?_
        refine At.dq (Stp.up hst156 rfl) ?_
        refine WD.heavy 6 rfl (by kernel_rfl) ?_
        have hf157 := hf28.mono (imm_st hst35 rfl rfl)
        have hf158 := hf157.mono (imm_st hst156 rfl rfl)
        obtain ⟨r159, hp160, h⟩ := bnd h
        refine WL.call (vals := [.agg [vi a0.Offset, (.slice p12 m13 c14)].toArray, vu a1]) kok64 rfl rfl (c_hist_span (A := fun _ => True) (a0 := a0) (Sl.all hf158) hp160) ?_
        rintro vr163 wd162 ⟨rfl, hm161⟩
        obtain ⟨O164, hold165, hnew166, hst167⟩ := adoptE O154 (fun k => 1) hm161
        refine WL.nil ?_
        refine At.dq (Stp.up hst167 rfl) ?_
        refine WD.heavy 7 rfl (by kernel_rfl) ?_
        obtain ⟨t168, ht168, h⟩ := bnd h
        refine WL.make (O := O164) (R := Rep.u) (zx := (0 : UInt64)) 18 (by decide) ty23 ty22 rfl (by decide) (by decide) rfl rfl (fun _ _ => rfl) ht168 rfl ?_
        intro v169 O171 wd172 hst173 ho170
        refine WL.nil ?_
        refine At.dq (Stp.up hst173 rfl) ?_
        have hh177 := h
        obtain ⟨p174, m175, c176, rfl⟩ := ho170.shape
        have h := hh177
        refine WD.y 8 rfl (by kernel_rfl) (fun _ _ _ => Y.build (vals := [(0, vi (shrI a0.Offset a1.toNat)), (1, (.slice p174 m175 c176))]) (cells := [vi (shrI a0.Offset a1.toNat), (.slice p174 m175 c176)]) (Fits.evalp rfl) (by kernel_rfl)) rfl ?_
        have hf181 := hb152.st hst167 rfl
        have hf182 := hf181.st hst173 rfl
        obtain ⟨O183, hst184, hb185⟩ := Blk.rlb 1003 rfl hf182
        have hf186 := ho170.st hst184 rfl rfl rfl
        obtain ⟨O187, hst188, ho189⟩ := OwnSl.rlb 1004 rfl hf186
        have hf190 := hb185.st hst188 rfl
        refine WD.own (Stp.trans (Stp.up hst184 rfl) (Stp.up hst188 rfl)) ?_
        refine WD.perm _ [9, 8, 7, 6, 5, 4, 3, 2, 1, 0] (by kernel_rfl) ?_
        exact hJ68 (t168, O187, p153, (.slice p174 m175 c176)) _ _ _ ⟨some1 h, (Stp.trans (Stp.up hst156 rfl) (Stp.trans (Stp.up hst167 rfl) (Stp.trans (Stp.up hst173 rfl) (Stp.trans (Stp.up hst184 rfl) (Stp.up hst188 rfl))))), hf190, ho189, rfl⟩ (.cons rfl (.cons rfl (.cons rfl (.cons rfl (.cons rfl .nil)))))
    · rintro ⟨x60, O63, b58, v61⟩ _ wd64 ⟨rfl, hst65, hb59, hf62, rfl⟩
      replace h := hk67
      try dsimp only at h hst65 hb59 hf62
      refine (show WD _ _ _ _ _ _ _ _ [(1, vu a1), (2, .pointer (some ⟨p17, 0, none⟩)), (4, .pointer (some ⟨p22, 0, none⟩)), (5, .pointer (some ⟨b58, 0, none⟩)), (21, .agg [vi (shrI a0.Offset a1.toNat), v61].toArray)] _ _ from ?_)
      refine WD.phase [1003] [0, 1, 2, 3, 4, 5, 6, 7, 8, 9, 10] (by kernel_rfl) (by kernel_rfl) ?_
      refine WD.heavy 10 rfl (by kernel_rfl) ?_
      have hh194 := h
      obtain ⟨p191, m192, c193, rfl⟩ := hf62.shape
      have h := hh194
      refine WL.store (v := .agg [vi (shrI a0.Offset a1.toNat), (.slice p191 m192 c193)].toArray) (cells' := [vi (shrI a0.Offset a1.toNat), (.slice p191 m192 c193)]) ty25 rfl rfl hb59 rfl (Nat.le_of_ble_eq_true rfl) rfl rfl ?_
      intro wd195 hst196 hb197
      refine WL.nil ?_
      refine At.dq (Stp.up hst196 rfl) ?_
      refine WD.done_ (by kernel_rfl) ?_
      refine At.then ?_
      refine WC.seq ?_
      refine WC.seq ?_
      refine WC.region ?_
      refine WL.y (Y.fieldAddr fo25_1 rfl) rfl ?_
      have hf198 := hf26.st hst35 rfl
      have hf199 := hf198.st hst65 rfl
      have hf200 := hf199.st hst196 rfl
      refine WL.y (Y.loadSc ty23 rfl rfl (hf200.cell 1 _ rfl)) rfl ?_
      have hf201 := hf28.mono (imm_st hst35 rfl rfl)
      have hf202 := hf201.mono (imm_st hst65 rfl rfl)
      have hf203 := hf202.mono (imm_st hst196 rfl rfl)
      refine WL.y (Y.len ty23 rfl hf203) rfl ?_
      refine WL.y (Y.move rfl) rfl ?_
      refine WL.nil ?_
      refine At.then ?_
      refine WC.block ?_
      obtain ⟨p217, h, hk219⟩ := flow1 h
      obtain ⟨k218, h⟩ := loop_some h
      refine WC.joinB 0 (σ := (List UInt64 × Own)) (fun x w' => p217 = .go x.1 ∧ Stp [1004, 1005] O63 wd195 x.2 w' ∧ OwnSl 1006 Rep.u 22 x.2 w' (.slice p191 m192 c193) x.1) (fun x => [(4, .pointer (some ⟨p22, 0, none⟩)), (5, .pointer (some ⟨b58, 0, none⟩))]) ?_ ?_
      · have hf220 := hf62.st hst196 rfl rfl rfl
        obtain ⟨O221, hst222, ho223⟩ := OwnSl.rlb 1005 rfl hf220
        refine WC.loop (σ := (List UInt64 × Int × Own)) (fun x k w' => loopN k (hist_down_lp1 a0 a1) (x.1, x.2.1) = some p217 ∧ Stp [1004, 1005] O63 wd195 x.2.2 w' ∧ OwnSl 1005 Rep.u 22 x.2.2 w' (.slice p191 m192 c193) x.1) (fun x => [(1, vu a1), (2, .pointer (some ⟨p17, 0, none⟩)), (4, .pointer (some ⟨p22, 0, none⟩)), (5, .pointer (some ⟨b58, 0, none⟩)), (23, (.slice p12 m13 c14)), (24, vi (a0.Counts.length : Int)), (25, vi x.2.1)]) (x60, 0, O221) k218 (.cons rfl (.cons rfl (.cons rfl (.cons rfl (.cons rfl (.cons rfl (.cons rfl .nil))))))) ⟨h, (Stp.up hst222 rfl), ho223⟩ ?_
        rintro ⟨c204, x207, O208⟩ k218 wd209 ⟨h, hst210, hf206⟩
        obtain ⟨j224, q225, rfl, h, hn226⟩ := rnd1 h
        unfold hist_down_lp1 at h
        try dsimp only at h hst210 hf206
        refine (show WC _ _ _ _ [(1, vu a1), (2, .pointer (some ⟨p17, 0, none⟩)), (4, .pointer (some ⟨p22, 0, none⟩)), (5, .pointer (some ⟨b58, 0, none⟩)), (23, (.slice p12 m13 c14)), (24, vi (a0.Counts.length : Int)), (25, vi x207)] _ from ?_)
        refine WC.seq ?_
        refine WC.region ?_
        refine WL.y (Y.lss_i rfl rfl) rfl ?_
        refine WL.nil ?_
        refine At.then ?_
        refine WC.seq ?_
        rcases cnd h with ⟨hc227, h⟩ | ⟨hc227, h⟩
        · refine WC.condT' rfl hc227 ?_
          refine WC.skip ?_
          refine At.then ?_
          refine WC.seq ?_
          refine WC.block ?_
          refine WC.seq ?_
          refine WC.region ?_
          refine WL.y (Y.move rfl) rfl ?_
          obtain ⟨e228, he228, h⟩ := bnd h
          have hf237 := hf203.mono (imm_st hst210 rfl rfl)
          obtain ⟨b229, off238, cap236, cs235, hv230, hi231, hl232, hc233, hok234, hA239⟩ := Sl.at2 hf237 he228
          obtain rfl := hok234
          replace hc233 : CellsAt _ _ _ [vu e228] := hc233
          have hca240 := CAt.imm hc233 hA239
          refine WL.y (Y.indexAddr ty23 ty22 rfl hv230 rfl hi231 hl232) rfl ?_
          refine WL.y (Y.loadSc ty22 rfl rfl hca240.at_) rfl ?_
          refine WL.y (Y.assign rfl) rfl ?_
          refine WL.y (Y.assign rfl) rfl ?_
          refine WL.nil ?_
          refine At.then ?_
          refine WC.region ?_
          refine WL.y (Y.fieldAddr fo25_1 rfl) rfl ?_
          have hf241 := hb197.st hst210 rfl
          refine WL.y (Y.loadSc ty23 rfl rfl (hf241.cell 1 _ rfl)) rfl ?_
          refine WL.y (Y.fieldAddr fo25_0 rfl) rfl ?_
          have hf242 := hf200.st hst210 rfl
          refine WL.y (Y.loadSc ty3 rfl rfl (hf242.cell 0 _ rfl)) rfl ?_
          refine WL.y (Y.move rfl) rfl ?_
          refine WL.y (Y.add_i rfl rfl) rfl ?_
          refine WL.y (Y.move rfl) rfl ?_
          refine WL.y (Y.shr_iu rfl rfl) rfl ?_
          refine WL.y (Y.fieldAddr fo25_0 rfl) rfl ?_
          refine WL.y (Y.loadSc ty3 rfl rfl (hf241.cell 0 _ rfl)) rfl ?_
          refine WL.y (Y.sub_i rfl rfl) rfl ?_
          obtain ⟨e243, he243, h⟩ := bnd h
          obtain ⟨b244, cap251, cs250, hv245, hi246, hl247, hc248, hok249⟩ := OwnSl.at hf206 he243
          obtain rfl := hok249
          replace hc248 : CellsAt _ _ _ [vu e243] := hc248
          have hca252 := CAt.own hf206 hv245 hc248
          refine WL.y (Y.indexAddr ty23 ty22 rfl hv245 rfl hi246 hl247) rfl ?_
          refine WL.y (Y.loadSc ty22 rfl rfl hca252.at_) rfl ?_
          refine WL.y (Y.move rfl) rfl ?_
          refine WL.y (Y.add_u rfl rfl) rfl ?_
          obtain ⟨e253, he253, h⟩ := bnd h
          obtain ⟨b254, cap261, cs260, hv255, hi256, hl257, hc258, hok259⟩ := OwnSl.at hf206 he253
          obtain rfl := hok259
          replace hc258 : CellsAt _ _ _ [vu e253] := hc258
          have hca262 := CAt.own hf206 hv255 hc258
          refine WL.y (Y.indexAddr ty23 ty22 rfl hv255 rfl hi256 hl257) rfl ?_
          obtain ⟨t263, ht263, h⟩ := lt1 h
          refine WL.ren 44 rfl (congrArg vu ht263.symm) ?_
          obtain ⟨xs264, hxs264, h⟩ := bnd h
          refine WL.storeOwn (by decide) ty22 rfl rfl rfl hf206 hv255 hxs264 ?_
          intro wd265 hst266 ho267
          refine WL.nil ?_
          refine At.inBlock ?_
          refine At.then ?_
          refine WC.region ?_
          refine WL.y (Y.add_i rfl rfl) rfl ?_
          refine WL.y (Y.move rfl) rfl ?_
          refine WL.nil ?_
          exact At.round (xs264, w64 (x207 + 1), O208) j224 (Nat.lt_succ_self _) ⟨next1 h hn226, (Stp.trans (Stp.up hst210 rfl) (Stp.up hst266 rfl)), ho267⟩ (.cons rfl (.cons rfl (.cons rfl (.cons rfl (.cons rfl (.cons rfl (.cons rfl .nil)))))))
        · refine WC.condF' rfl hc227 ?_
          refine WC.exit ?_
          refine At.thenX ?_
          refine At.loopX ?_
          obtain ⟨O268, hst269, ho270⟩ := OwnSl.rlb 1006 rfl hf206
          exact At.hitB (σ := (List UInt64 × Own)) (c204, O268) ⟨brk1 h hn226, (Stp.trans (Stp.up hst210 rfl) (Stp.up hst269 rfl)), ho270⟩ (.cons rfl (.cons rfl .nil))
      · rintro ⟨c211, O214⟩ wd215 ⟨rfl, hst216, hf213⟩
        replace h := flowK_go hk219
        try dsimp only at h hst216 hf213
        refine (show At _ _ _ [(4, .pointer (some ⟨p22, 0, none⟩)), (5, .pointer (some ⟨b58, 0, none⟩))] _ from ?_)
        refine At.inBlockHit ?_
        refine At.then ?_
        refine WC.seq ?_
        refine WC.region ?_
        have hf271 := hb197.st hst216 rfl
        refine WL.y (Y.loadAg ty25 rfl rfl (hf271.cells 0 [vi (shrI a0.Offset a1.toNat), (.slice p191 m192 c193)] rfl) rfl) rfl ?_
        have hf272 := hb21.st hst35 rfl
        have hf273 := hf272.st hst65 rfl
        have hf274 := hf273.st hst196 rfl
        have hf275 := hf274.st hst216 rfl
        refine WL.store (v := .agg [vi (shrI a0.Offset a1.toNat), (.slice p191 m192 c193)].toArray) (cells' := [vi (shrI a0.Offset a1.toNat), (.slice p191 m192 c193)]) ty25 rfl rfl hf275 rfl (Nat.le_of_ble_eq_true rfl) rfl rfl ?_
        intro wd276 hst277 hb278
        refine WL.nil ?_
        refine At.then ?_
        refine WC.ret ?_
        obtain rfl := some1 h
        have hf279 := hf213.st hst277 rfl rfl rfl
        obtain ⟨O280, hst281, hf282⟩ := OwnSl.giveF rfl Flat.u hf279
        have hs283 : Stp [12, 13, 14, 15, 16, 17, 18, 1001, 1002, 1003, 1004, 1005, 1006] (Lg.O0 A) w O280 wd276 := (Stp.trans (Stp.up hst20 rfl) (Stp.trans (Stp.up hst25 rfl) (Stp.trans (Stp.up hst35 rfl) (Stp.trans (Stp.up hst65 rfl) (Stp.trans (Stp.up hst196 rfl) (Stp.trans (Stp.up hst216 rfl) (Stp.trans (Stp.up hst277 rfl) (Stp.up hst281 rfl))))))))
        have hf284 := hb278.st hst281 rfl
        exact At.res (.inl rfl) rfl (.cell rfl (hf284.runAg 0 [vi (shrI a0.Offset a1.toNat), (.slice p191 m192 c193)] ty25 rfl rfl rfl) .nil) ⟨(.slice p191 m192 c193), rfl, (Stp.ext hs283 rfl rfl), (Sl.outF hf282 hs283 low0)⟩

theorem c_hist_Down {A : Nat → Prop} {v0_3 : Value} {v0_5 : Value} {a0 : api_Hist} {a1 : Int} {w : World} (hs0_3 : Sl Rep.u w A v0_3 a0.Pos.Counts) (hs0_5 : Sl Rep.u w A v0_5 a0.Neg.Counts) {r0 : api_Hist} {r1 : Int} (h : hist_Down a0 a1 = some (r0, r1)) : Rets Try.prog 21 [.agg [vi a0.Scale, vu a0.Zero, vi a0.Pos.Offset, v0_3, vi a0.Neg.Offset, v0_5].toArray, vi a1] w (fun v w' => ∃ (u0_3 : Value) (u0_5 : Value), v = .tuple (List.toArray [.agg (List.toArray [vi r0.Scale, vu r0.Zero, vi r0.Pos.Offset, u0_3, vi r0.Neg.Offset, u0_5]), vi r1]) ∧ Ext w w' ∧ Sl Rep.u w' (fun k => w.heap.size ≤ k) u0_3 r0.Pos.Counts ∧ Sl Rep.u w' (fun k => w.heap.size ≤ k) u0_5 r0.Neg.Counts) := by
  unfold hist_Down at h
  refine Rets.enter Try.func21 rfl rfl ?_
  have hf11 : Sl Rep.u w (imm (Lg.O0 A)) v0_3 a0.Pos.Counts := (Sl.start hs0_3)
  have hf12 : Sl Rep.u w (imm (Lg.O0 A)) v0_5 a0.Neg.Counts := (Sl.start hs0_5)
  refine (show WC _ _ _ _ [(0, .agg [vi a0.Scale, vu a0.Zero, vi a0.Pos.Offset, v0_3, vi a0.Neg.Offset, v0_5].toArray), (1, vi a1)] _ from ?_)
  refine WC.seq ?_
  refine WC.region ?_
  have hh16 := h
  obtain ⟨p13, m14, c15, rfl⟩ := hf11.shape
  have h := hh16
  have hh20 := h
  obtain ⟨p17, m18, c19, rfl⟩ := hf12.shape
  have h := hh20
  refine WL.box (O := (Lg.O0 A)) 11 [vi a0.Scale, vu a0.Zero, vi a0.Pos.Offset, (.slice p13 m14 c15), vi a0.Neg.Offset, (.slice p17 m18 c19)] rfl rfl rfl ?_
  intro p22 O23 wd24 hst25 hb21
  refine WL.alloc (O := O23) 12 [vi 0, vu 0, vi 0, .slice none 0 0, vi 0, .slice none 0 0] ty27 rfl rfl ?_
  intro p27 O28 wd29 hst30 hb26
  refine WL.y (Y.assign rfl) rfl ?_
  refine WL.nil ?_
  refine At.then ?_
  refine WC.seq ?_
  refine WC.seq ?_
  refine WC.region ?_
  have hf31 := hb21.st hst30 rfl
  refine WL.y (Y.loadAg ty27 rfl rfl (hf31.cells 0 [vi a0.Scale, vu a0.Zero, vi a0.Pos.Offset, (.slice p13 m14 c15), vi a0.Neg.Offset, (.slice p17 m18 c19)] rfl) rfl) rfl ?_
  have hf32 := hf11.mono (imm_st hst25 rfl rfl)
  have hf33 := hf32.mono (imm_st hst30 rfl rfl)
  have hf34 := hf12.mono (imm_st hst25 rfl rfl)
  have hf35 := hf34.mono (imm_st hst30 rfl rfl)
  obtain ⟨r36, hp37, h⟩ := bnd h
  refine WL.call (vals := [.agg [vi a0.Scale, vu a0.Zero, vi a0.Pos.Offset, (.slice p13 m14 c15), vi a0.Neg.Offset, (.slice p17 m18 c19)].toArray]) kok19 rfl rfl (c_hist_Check (A := fun _ => True) (a0 := a0) (Sl.all hf33) (Sl.all hf35) hp37) ?_
  rintro vr40 wd39 ⟨rfl, hm38⟩
  obtain ⟨O41, hold42, hnew43, hst44⟩ := adoptE O28 (fun k => 1) hm38
  refine WL.y (Y.assign rfl) rfl ?_
  refine WL.nil ?_
  refine At.then ?_
  refine WC.seq ?_
  refine WC.region ?_
  refine WL.y (Y.move rfl) rfl ?_
  refine WL.y (Y.neq_i rfl rfl) rfl ?_
  refine WL.nil ?_
  refine At.then ?_
  rcases cnd h with ⟨hc45, h⟩ | ⟨hc45, h⟩
  · refine WC.condT' rfl hc45 ?_
    refine WC.seq ?_
    refine WC.region ?_
    refine WL.y (Y.build (vals := []) (cells := [vi 0, vu 0, vi 0, .slice none 0 0, vi 0, .slice none 0 0]) (Fits.evalp rfl) (by kernel_rfl)) rfl ?_
    refine WL.y (Y.move rfl) rfl ?_
    have hf46 := hb26.st hst44 rfl
    refine WL.store (v := .agg [vi 0, vu 0, vi 0, .slice none 0 0, vi 0, .slice none 0 0].toArray) (cells' := [vi 0, vu 0, vi 0, .slice none 0 0, vi 0, .slice none 0 0]) ty27 rfl rfl hf46 rfl (Nat.le_of_ble_eq_true rfl) rfl rfl ?_
    intro wd47 hst48 hb49
    refine WL.y (Y.assign rfl) rfl ?_
    refine WL.nil ?_
    refine At.then ?_
    refine WC.ret ?_
    refine At.thenR ?_
    obtain ⟨rfl, rfl⟩ := tup2 h
    have hs50 : Stp [12] (Lg.O0 A) w O41 wd47 := (Stp.trans (Stp.up hst25 rfl) (Stp.trans (Stp.up hst30 rfl) (Stp.trans (Stp.up hst44 rfl) (Stp.up hst48 rfl))))
    exact At.res (.inl rfl) rfl (.cell rfl (hb49.runAg 0 [vi 0, vu 0, vi 0, .slice none 0 0, vi 0, .slice none 0 0] ty27 rfl rfl rfl) (.tmp rfl .nil)) ⟨.slice none 0 0, .slice none 0 0, rfl, (Stp.ext hs50 rfl rfl), (Or.inl ⟨rfl, rfl⟩), (Or.inl ⟨rfl, rfl⟩)⟩
  · refine WC.condF' rfl hc45 ?_
    refine WC.skip ?_
    refine At.then ?_
    refine WC.seq ?_
    refine WC.seq ?_
    refine WC.region ?_
    refine WL.y (Y.move rfl) rfl ?_
    refine WL.y (Y.lss_i rfl rfl) rfl ?_
    refine WL.y (Y.move rfl) rfl ?_
    refine WL.cut 6 (σ := Unit) (fun _ w' => wd39 = w') (fun _ => [(1, vi a1), (2, .pointer (some ⟨p22, 0, none⟩)), (4, .pointer (some ⟨p27, 0, none⟩)), (21, .bool ((decide (a1 < 0)) || (decide (w64 (a0.Scale - (-10)) < a1))))]) ?_ ?_
    · refine WL.part 15 rfl (fun hE51 => ?_) (fun hE51 => ?_)
      · refine WL.gS rfl rfl rfl rfl ?_
        refine WL.gS rfl rfl rfl rfl ?_
        refine WL.gS rfl rfl rfl rfl ?_
        refine WL.gS rfl rfl rfl rfl ?_
        refine WL.gS rfl rfl rfl rfl ?_
        refine WL.y (Y.pick (b := true) rfl rfl) rfl ?_
        refine WL.ren (v' := .bool ((decide (a1 < 0)) || (decide (w64 (a0.Scale - (-10)) < a1)))) 21 rfl (congrArg Value.bool (orT hE51)) ?_
        exact WL.nil (At.join () rfl (.cons rfl (.cons rfl (.cons rfl (.cons rfl .nil)))))
      · refine WL.ung rfl rfl ?_
        refine WL.y (Y.move rfl) rfl ?_
        refine WL.ung rfl rfl ?_
        refine WL.y (Y.fieldAddr fo27_0 rfl) rfl ?_
        refine WL.ung rfl rfl ?_
        have hf52 := hf31.st hst44 rfl
        refine WL.y (Y.loadSc ty3 rfl rfl (hf52.cell 0 _ rfl)) rfl ?_
        refine WL.ung rfl rfl ?_
        refine WL.y (Y.sub_i rfl rfl) rfl ?_
        refine WL.ung rfl rfl ?_
        refine WL.y (Y.gtr_i rfl rfl) rfl ?_
        refine WL.y (Y.pick (b := false) rfl rfl) rfl ?_
        refine WL.ren (v' := .bool ((decide (a1 < 0)) || (decide (w64 (a0.Scale - (-10)) < a1)))) 21 rfl (congrArg Value.bool (orF hE51)) ?_
        exact WL.nil (At.join () rfl (.cons rfl (.cons rfl (.cons rfl (.cons rfl .nil)))))
    · rintro _ _ rfl
      refine (show WL _ _ _ _ _ [(1, vi a1), (2, .pointer (some ⟨p22, 0, none⟩)), (4, .pointer (some ⟨p27, 0, none⟩)), (21, .bool ((decide (a1 < 0)) || (decide (w64 (a0.Scale - (-10)) < a1))))] _ from ?_)
      refine WL.nil ?_
      refine At.then ?_
      rcases cnd h with ⟨hc53, h⟩ | ⟨hc53, h⟩
      · refine WC.condT' rfl hc53 ?_
        refine WC.seq ?_
        refine WC.region ?_
        refine WL.y (Y.build (vals := []) (cells := [vi 0, vu 0, vi 0, .slice none 0 0, vi 0, .slice none 0 0]) (Fits.evalp rfl) (by kernel_rfl)) rfl ?_
        have hf54 := hb26.st hst44 rfl
        refine WL.store (v := .agg [vi 0, vu 0, vi 0, .slice none 0 0, vi 0, .slice none 0 0].toArray) (cells' := [vi 0, vu 0, vi 0, .slice none 0 0, vi 0, .slice none 0 0]) ty27 rfl rfl hf54 rfl (Nat.le_of_ble_eq_true rfl) rfl rfl ?_
        intro wd55 hst56 hb57
        refine WL.y (Y.assign rfl) rfl ?_
        refine WL.nil ?_
        refine At.then ?_
        refine WC.ret ?_
        refine At.thenR ?_
        obtain ⟨rfl, rfl⟩ := tup2 h
        have hs58 : Stp [12] (Lg.O0 A) w O41 wd55 := (Stp.trans (Stp.up hst25 rfl) (Stp.trans (Stp.up hst30 rfl) (Stp.trans (Stp.up hst44 rfl) (Stp.up hst56 rfl))))
        exact At.res (.inl rfl) rfl (.cell rfl (hb57.runAg 0 [vi 0, vu 0, vi 0, .slice none 0 0, vi 0, .slice none 0 0] ty27 rfl rfl rfl) (.tmp rfl .nil)) ⟨.slice none 0 0, .slice none 0 0, rfl, (Stp.ext hs58 rfl rfl), (Or.inl ⟨rfl, rfl⟩), (Or.inl ⟨rfl, rfl⟩)⟩
      · refine WC.condF' rfl hc53 ?_
        refine WC.skip ?_
        refine At.then ?_
        refine WC.seq ?_
        refine WC.drawH [] [0, 1, 2, 3, 4, 5, 6, 7, 8, 9, 10, 11, 12, 13, 14, 15, 16] O41 19 fmix rfl (by kernel_rfl) ?_
        intro wd59 hst60
        refine WD.y 0 rfl (by kernel_rfl) (fun _ _ _ => Y.fieldAddr fo27_0 rfl) rfl ?_
        refine WD.y 1 rfl (by kernel_rfl) (fun wd65 O64 hst66 => have hf67 := hf31.st hst44 rfl; have hf68 := hf67.st hst60 rfl; have hf69 := hf68.st hst66 rfl; Y.loadSc ty3 rfl rfl (hf69.cell 0 _ rfl)) rfl ?_
        refine WD.y 2 rfl (by kernel_rfl) (fun _ _ _ => Y.move rfl) rfl ?_
        refine WD.y 3 rfl (by kernel_rfl) (fun _ _ _ => Y.sub_i rfl rfl) rfl ?_
        refine WD.y 4 rfl (by kernel_rfl) (fun _ _ _ => Y.fieldAddr fo27_1 rfl) rfl ?_
        refine WD.y 5 rfl (by kernel_rfl) (fun wd80 O79 hst81 => have hf82 := hf31.st hst44 rfl; have hf83 := hf82.st hst60 rfl; have hf84 := hf83.st hst81 rfl; Y.loadSc ty22 rfl rfl (hf84.cell 1 _ rfl)) rfl ?_
        refine WD.y 6 rfl (by kernel_rfl) (fun _ _ _ => Y.fieldAddr fo27_2 rfl) rfl ?_
        refine WD.y 7 rfl (by kernel_rfl) (fun wd89 O88 hst90 => have hf91 := hf31.st hst44 rfl; have hf92 := hf91.st hst60 rfl; have hf93 := hf92.st hst90 rfl; Y.loadAg ty25 rfl rfl (hf93.cells 2 [vi a0.Pos.Offset, (.slice p13 m14 c15)] rfl) rfl) rfl ?_
        refine WD.y 8 rfl (by kernel_rfl) (fun _ _ _ => Y.move rfl) rfl ?_
        refine WD.y 9 rfl (by kernel_rfl) (fun _ _ _ => Y.conv_iu ty3.u ty82.u rfl) rfl ?_
        refine WD.y 11 rfl (by kernel_rfl) (fun _ _ _ => Y.fieldAddr fo27_3 rfl) rfl ?_
        refine WD.y 12 rfl (by kernel_rfl) (fun wd104 O103 hst105 => have hf106 := hf31.st hst44 rfl; have hf107 := hf106.st hst60 rfl; have hf108 := hf107.st hst105 rfl; Y.loadAg ty25 rfl rfl (hf108.cells 4 [vi a0.Neg.Offset, (.slice p17 m18 c19)] rfl) rfl) rfl ?_
        refine WD.y 13 rfl (by kernel_rfl) (fun _ _ _ => Y.move rfl) rfl ?_
        refine WD.y 14 rfl (by kernel_rfl) (fun _ _ _ => Y.conv_iu ty3.u ty82.u rfl) rfl ?_
        refine WD.heavy 10 rfl (by kernel_rfl) ?_
        have hf115 := hf33.mono (imm_st hst44 rfl rfl)
        have hf116 := hf115.mono (imm_st hst60 rfl rfl)
        obtain ⟨r117, hp118, h⟩ := bnd h
        refine WL.call (vals := [.agg [vi a0.Pos.Offset, (.slice p13 m14 c15)].toArray, vu (toU64 a1)]) kok62 rfl rfl (c_hist_down (A := fun _ => True) (a0 := a0.Pos) (Sl.all hf116) hp118) ?_
        rintro vr123 wd122 ⟨u119, rfl, hm121, f120⟩
        obtain ⟨O124, hold125, hnew126, hst127⟩ := adoptE O41 (fun k => 1) hm121
        have hf128 : Sl Rep.u wd122 (frs O124) u119 r117.Counts := Sl.adoptF f120 (fun k hk => ⟨hk, rfl⟩) hnew126
        refine WL.nil ?_
        refine At.dq (Stp.up hst127 rfl) ?_
        refine WD.heavy 15 rfl (by kernel_rfl) ?_
        have hf129 := hf35.mono (imm_st hst44 rfl rfl)
        have hf130 := hf129.mono (imm_st hst60 rfl rfl)
        have hf131 := hf130.mono (imm_st hst127 rfl rfl)
        obtain ⟨r132, hp133, h⟩ := bnd h
        refine WL.call (vals := [.agg [vi a0.Neg.Offset, (.slice p17 m18 c19)].toArray, vu (toU64 a1)]) kok62 rfl rfl (c_hist_down (A := fun _ => True) (a0 := a0.Neg) (Sl.all hf131) hp133) ?_
        rintro vr138 wd137 ⟨u134, rfl, hm136, f135⟩
        obtain ⟨O139, hold140, hnew141, hst142⟩ := adoptE O124 (fun k => 1) hm136
        have hf143 : Sl Rep.u wd137 (frs O139) u134 r132.Counts := Sl.adoptF f135 (fun k hk => ⟨hk, rfl⟩) hnew141
        refine WL.nil ?_
        refine At.dq (Stp.up hst142 rfl) ?_
        have hf144 := hf128.mono (frs_st hst142 rfl)
        have hh148 := h
        obtain ⟨p145, m146, c147, rfl⟩ := hf144.shape
        have h := hh148
        have hh152 := h
        obtain ⟨p149, m150, c151, rfl⟩ := hf143.shape
        have h := hh152
        refine WD.y 16 rfl (by kernel_rfl) (fun _ _ _ => Y.build (vals := [(0, vi (w64 (a0.Scale - a1))), (1, vu a0.Zero), (2, .agg [vi r117.Offset, (.slice p145 m146 c147)].toArray), (3, .agg [vi r132.Offset, (.slice p149 m150 c151)].toArray)]) (cells := [vi (w64 (a0.Scale - a1)), vu a0.Zero, vi r117.Offset, (.slice p145 m146 c147), vi r132.Offset, (.slice p149 m150 c151)]) (Fits.evalp rfl) (by kernel_rfl)) rfl ?_
        refine WD.phase [12] [0, 1, 2, 3, 4, 5, 6, 7, 8, 9, 10, 11, 12, 13, 14, 15, 16, 17, 18] (by kernel_rfl) (by kernel_rfl) ?_
        refine WD.heavy 17 rfl (by kernel_rfl) ?_
        have hf156 := hb26.st hst44 rfl
        have hf157 := hf156.st hst60 rfl
        have hf158 := hf157.st hst127 rfl
        have hf159 := hf158.st hst142 rfl
        refine WL.store (v := .agg [vi (w64 (a0.Scale - a1)), vu a0.Zero, vi r117.Offset, (.slice p145 m146 c147), vi r132.Offset, (.slice p149 m150 c151)].toArray) (cells' := [vi (w64 (a0.Scale - a1)), vu a0.Zero, vi r117.Offset, (.slice p145 m146 c147), vi r132.Offset, (.slice p149 m150 c151)]) ty27 rfl rfl hf159 rfl (Nat.le_of_ble_eq_true rfl) rfl rfl ?_
        intro wd160 hst161 hb162
        refine WL.nil ?_
        refine At.dq (Stp.up hst161 rfl) ?_
        refine WD.y 18 rfl (by kernel_rfl) (fun _ _ _ => Y.assign rfl) rfl ?_
        refine WD.done_ (by kernel_rfl) ?_
        refine At.then ?_
        refine WC.ret ?_
        obtain ⟨rfl, rfl⟩ := tup2 h
        have hs166 : Stp [12] (Lg.O0 A) w O139 wd160 := (Stp.trans (Stp.up hst25 rfl) (Stp.trans (Stp.up hst30 rfl) (Stp.trans (Stp.up hst44 rfl) (Stp.trans (Stp.up hst60 rfl) (Stp.trans (Stp.up hst127 rfl) (Stp.trans (Stp.up hst142 rfl) (Stp.up hst161 rfl)))))))
        have hf167 := hf144.mono (frs_st hst161 rfl)
        have hf168 := hf143.mono (frs_st hst161 rfl)
        exact At.res (.inl rfl) rfl (.cell rfl (hb162.runAg 0 [vi (w64 (a0.Scale - a1)), vu a0.Zero, vi r117.Offset, (.slice p145 m146 c147), vi r132.Offset, (.slice p149 m150 c151)] ty27 rfl rfl rfl) (.tmp rfl .nil)) ⟨(.slice p145 m146 c147), (.slice p149 m150 c151), rfl, (Stp.ext hs166 rfl rfl), (Sl.outF hf167 hs166 low0), (Sl.outF hf168 hs166 low0)⟩

theorem c_ref08_SameSide {A : Nat → Prop} {v0_1 : Value} {a0 : api_Side} {v1_1 : Value} {a1 : api_Side} {w : World} (hs0_1 : Sl Rep.u w A v0_1 a0.Counts) (hs1_1 : Sl Rep.u w A v1_1 a1.Counts) {r0 : Bool} (h : ref08_SameSide a0 a1 = some r0) : Rets Try.prog 27 [.agg [vi a0.Offset, v0_1].toArray, .agg [vi a1.Offset, v1_1].toArray] w (fun v w' => v = .bool r0 ∧ Ext w w') := by
  unfold ref08_SameSide at h
  refine Rets.enter Try.func27 rfl rfl ?_
  have hf11 : Sl Rep.u w (imm (Lg.O0 A)) v0_1 a0.Counts := (Sl.start hs0_1)
  have hf12 : Sl Rep.u w (imm (Lg.O0 A)) v1_1 a1.Counts := (Sl.start hs1_1)
  refine (show WC _ _ _ _ [(0, .agg [vi a0.Offset, v0_1].toArray), (1, .agg [vi a1.Offset, v1_1].toArray)] _ from ?_)
  refine WC.seq ?_
  refine WC.region ?_
  have hh16 := h
  obtain ⟨p13, m14, c15, rfl⟩ := hf11.shape
  have h := hh16
  refine WL.box (O := (Lg.O0 A)) 11 [vi a0.Offset, (.slice p13 m14 c15)] rfl rfl rfl ?_
  intro p18 O19 wd20 hst21 hb17
  have hf22 := hf12.mono (imm_st hst21 rfl rfl)
  have hh26 := h
  obtain ⟨p23, m24, c25, rfl⟩ := hf22.shape
  have h := hh26
  refine WL.box (O := O19) 12 [vi a1.Offset, (.slice p23 m24 c25)] rfl rfl rfl ?_
  intro p28 O29 wd30 hst31 hb27
  refine WL.y (Y.assign rfl) rfl ?_
  refine WL.nil ?_
  refine At.then ?_
  refine WC.seq ?_
  refine WC.seq ?_
  refine WC.region ?_
  refine WL.y (Y.fieldAddr fo25_0 rfl) rfl ?_
  have hf32 := hb17.st hst31 rfl
  refine WL.y (Y.loadSc ty3 rfl rfl (hf32.cell 0 _ rfl)) rfl ?_
  refine WL.y (Y.fieldAddr fo25_0 rfl) rfl ?_
  refine WL.y (Y.loadSc ty3 rfl rfl (hb27.cell 0 _ rfl)) rfl ?_
  refine WL.y (Y.neq_i rfl rfl) rfl ?_
  refine WL.y (Y.move rfl) rfl ?_
  refine WL.cut 8 (σ := Unit) (fun _ w' => wd30 = w') (fun _ => [(2, .pointer (some ⟨p18, 0, none⟩)), (3, .pointer (some ⟨p28, 0, none⟩)), (19, .bool ((!decide (a0.Offset = a1.Offset)) || (!decide ((a0.Counts.length : Int) = (a1.Counts.length : Int)))))]) ?_ ?_
  · refine WL.part 11 rfl (fun hE33 => ?_) (fun hE33 => ?_)
    · refine WL.gS rfl rfl rfl rfl ?_
      refine WL.gS rfl rfl rfl rfl ?_
      refine WL.gS rfl rfl rfl rfl ?_
      refine WL.gS rfl rfl rfl rfl ?_
      refine WL.gS rfl rfl rfl rfl ?_
      refine WL.gS rfl rfl rfl rfl ?_
      refine WL.gS rfl rfl rfl rfl ?_
      refine WL.y (Y.pick (b := true) rfl rfl) rfl ?_
      refine WL.ren (v' := .bool ((!decide (a0.Offset = a1.Offset)) || (!decide ((a0.Counts.length : Int) = (a1.Counts.length : Int))))) 19 rfl (congrArg Value.bool (orT hE33)) ?_
      exact WL.nil (At.join () rfl (.cons rfl (.cons rfl (.cons rfl .nil))))
    · refine WL.ung rfl rfl ?_
      refine WL.y (Y.fieldAddr fo25_1 rfl) rfl ?_
      refine WL.ung rfl rfl ?_
      refine WL.y (Y.loadSc ty23 rfl rfl (hf32.cell 1 _ rfl)) rfl ?_
      refine WL.ung rfl rfl ?_
      have hf34 := hf11.mono (imm_st hst21 rfl rfl)
      have hf35 := hf34.mono (imm_st hst31 rfl rfl)
      refine WL.y (Y.len ty23 rfl hf35) rfl ?_
      refine WL.ung rfl rfl ?_
      refine WL.y (Y.fieldAddr fo25_1 rfl) rfl ?_
      refine WL.ung rfl rfl ?_
      refine WL.y (Y.loadSc ty23 rfl rfl (hb27.cell 1 _ rfl)) rfl ?_
      refine WL.ung rfl rfl ?_
      have hf36 := hf22.mono (imm_st hst31 rfl rfl)
      refine WL.y (Y.len ty23 rfl hf36) rfl ?_
      refine WL.ung rfl rfl ?_
      refine WL.y (Y.neq_i rfl rfl) rfl ?_
      refine WL.y (Y.pick (b := false) rfl rfl) rfl ?_
      refine WL.ren (v' := .bool ((!decide (a0.Offset = a1.Offset)) || (!decide ((a0.Counts.length : Int) = (a1.Counts.length : Int))))) 19 rfl (congrArg Value.bool (orF hE33)) ?_
      exact WL.nil (At.join () rfl (.cons rfl (.cons rfl (.cons rfl .nil))))
  · rintro _ _ rfl
    refine (show WL _ _ _ _ _ [(2, .pointer (some ⟨p18, 0, none⟩)), (3, .pointer (some ⟨p28, 0, none⟩)), (19, .bool ((!decide (a0.Offset = a1.Offset)) || (!decide ((a0.Counts.length : Int) = (a1.Counts.length : Int)))))] _ from ?_)
    refine WL.nil ?_
    refine At.then ?_
    rcases cnd h with ⟨hc37, h⟩ | ⟨hc37, h⟩
    · refine WC.condT' rfl hc37 ?_
      refine WC.seq ?_
      refine WC.region ?_
      refine WL.y (Y.assign rfl) rfl ?_
      refine WL.nil ?_
      refine At.then ?_
      refine WC.ret ?_
      refine At.thenR ?_
      obtain rfl := some1 h
      have hs38 : Stp [] (Lg.O0 A) w O29 wd30 := (Stp.trans (Stp.up hst21 rfl) (Stp.up hst31 rfl))
      exact At.res (.inl rfl) rfl (.tmp rfl .nil) ⟨rfl, (Stp.ext hs38 rfl rfl)⟩
    · refine WC.condF' rfl hc37 ?_
      refine WC.skip ?_
      refine At.then ?_
      refine WC.seq ?_
      refine WC.seq ?_
      refine WC.region ?_
      refine WL.y (Y.assign rfl) rfl ?_
      refine WL.nil ?_
      refine At.then ?_
      refine WC.block ?_
      obtain ⟨p46, h, hk48⟩ := flow1 h
      obtain ⟨k47, h⟩ := loop_some h
      refine WC.joinB 0 (σ := Own) (fun x w' => p46 = .go () ∧ Stp [] O29 wd30 x w') (fun x => []) ?_ ?_
      · refine WC.loop (σ := (Int × Own)) (fun x k w' => loopN k (ref08_SameSide_lp1 a0 a1) x.1 = some p46 ∧ Stp [] O29 wd30 x.2 w') (fun x => [(2, .pointer (some ⟨p18, 0, none⟩)), (3, .pointer (some ⟨p28, 0, none⟩)), (5, vi x.1)]) (0, O29) k47 (.cons rfl (.cons rfl (.cons rfl .nil))) ⟨h, (Stp.refl _ _ _)⟩ ?_
        rintro ⟨i39, O40⟩ k47 wd41 ⟨h, hst42⟩
        obtain ⟨j49, q50, rfl, h, hn51⟩ := rnd1 h
        unfold ref08_SameSide_lp1 at h
        try dsimp only at h hst42
        refine (show WC _ _ _ _ [(2, .pointer (some ⟨p18, 0, none⟩)), (3, .pointer (some ⟨p28, 0, none⟩)), (5, vi i39)] _ from ?_)
        refine WC.seq ?_
        refine WC.seq ?_
        refine WC.region ?_
        refine WL.y (Y.move rfl) rfl ?_
        refine WL.y (Y.fieldAddr fo25_1 rfl) rfl ?_
        have hf52 := hf32.st hst42 rfl
        refine WL.y (Y.loadSc ty23 rfl rfl (hf52.cell 1 _ rfl)) rfl ?_
        have hf53 := hf11.mono (imm_st hst21 rfl rfl)
        have hf54 := hf53.mono (imm_st hst31 rfl rfl)
        have hf55 := hf54.mono (imm_st hst42 rfl rfl)
        refine WL.y (Y.len ty23 rfl hf55) rfl ?_
        refine WL.y (Y.lss_i rfl rfl) rfl ?_
        refine WL.nil ?_
        refine At.then ?_
        rcases cnd h with ⟨hc56, h⟩ | ⟨hc56, h⟩
        · refine WC.condT' rfl hc56 ?_
          refine WC.skip ?_
          refine At.then ?_
          refine WC.seq ?_
          refine WC.block ?_
          refine WC.seq ?_
          refine WC.draw 10 O40 fmix (by kernel_rfl) ?_
          intro wd57 hst58
          refine WS.y (Y.fieldAddr fo25_1 rfl) rfl ?_
          have hf59 := hf52.st hst58 rfl
          refine WS.y (Y.loadSc ty23 rfl rfl (hf59.cell 1 _ rfl)) rfl ?_
          refine WS.y (Y.move rfl) rfl ?_
          obtain ⟨e60, he60, h⟩ := bnd h
          have hf69 := hf55.mono (imm_st hst58 rfl rfl)
          obtain ⟨b61, off70, cap68, cs67, hv62, hi63, hl64, hc65, hok66, hA71⟩ := Sl.at2 hf69 he60
          obtain rfl := hok66
          replace hc65 : CellsAt _ _ _ [vu e60] := hc65
          have hca72 := CAt.imm hc65 hA71
          refine WS.y (Y.indexAddr ty23 ty22 rfl hv62 rfl hi63 hl64) rfl ?_
          refine WS.y (Y.loadSc ty22 rfl rfl hca72.at_) rfl ?_
          refine WS.y (Y.fieldAddr fo25_1 rfl) rfl ?_
          have hf73 := hb27.st hst42 rfl
          have hf74 := hf73.st hst58 rfl
          refine WS.y (Y.loadSc ty23 rfl rfl (hf74.cell 1 _ rfl)) rfl ?_
          refine WS.y (Y.move rfl) rfl ?_
          obtain ⟨e75, he75, h⟩ := bnd h
          have hf84 := hf22.mono (imm_st hst31 rfl rfl)
          have hf85 := hf84.mono (imm_st hst42 rfl rfl)
          have hf86 := hf85.mono (imm_st hst58 rfl rfl)
          obtain ⟨b76, off87, cap83, cs82, hv77, hi78, hl79, hc80, hok81, hA88⟩ := Sl.at2 hf86 he75
          obtain rfl := hok81
          replace hc80 : CellsAt _ _ _ [vu e75] := hc80
          have hca89 := CAt.imm hc80 hA88
          refine WS.y (Y.indexAddr ty23 ty22 rfl hv77 rfl hi78 hl79) rfl ?_
          refine WS.y (Y.loadSc ty22 rfl rfl hca89.at_) rfl ?_
          refine WS.tail ?_
          refine WL.y (Y.neq_u rfl rfl) rfl ?_
          refine WL.nil ?_
          refine At.then ?_
          rcases cnd h with ⟨hc90, h⟩ | ⟨hc90, h⟩
          · refine WC.condT' rfl hc90 ?_
            refine WC.seq ?_
            refine WC.region ?_
            refine WL.y (Y.assign rfl) rfl ?_
            refine WL.nil ?_
            refine At.then ?_
            refine WC.ret ?_
            refine At.inBlockR ?_
            refine At.thenR ?_
            refine At.loopR ?_
            have h := outr1 h hn51 hk48
            refine At.joinBR ?_
            refine At.inBlockR ?_
            refine At.thenR ?_
            obtain rfl := some1 h
            have hs91 : Stp [] (Lg.O0 A) w O40 wd57 := (Stp.trans (Stp.up hst21 rfl) (Stp.trans (Stp.up hst31 rfl) (Stp.trans (Stp.up hst42 rfl) (Stp.up hst58 rfl))))
            exact At.res (.inl rfl) rfl (.tmp rfl .nil) ⟨rfl, (Stp.ext hs91 rfl rfl)⟩
          · refine WC.condF' rfl hc90 ?_
            refine WC.skip ?_
            refine At.inBlock ?_
            refine At.then ?_
            refine WC.region ?_
            refine WL.y (Y.move rfl) rfl ?_
            refine WL.y (Y.add_i rfl rfl) rfl ?_
            obtain ⟨i92, hi92, h⟩ := lt1 h
            refine WL.yE (Y.assign rfl) (congrArg vi hi92.symm) rfl ?_
            refine WL.nil ?_
            exact At.round (i92, O40) j49 (Nat.lt_succ_self _) ⟨next1 h hn51, (Stp.trans (Stp.up hst42 rfl) (Stp.up hst58 rfl))⟩ (.cons rfl (.cons rfl (.cons rfl .nil)))
        · refine WC.condF' rfl hc56 ?_
          refine WC.exit ?_
          refine At.thenX ?_
          refine At.loopX ?_
          exact At.hitB (σ := Own) O40 ⟨brk1 h hn51, (Stp.up hst42 rfl)⟩ .nil
      · rintro O43 wd44 ⟨rfl, hst45⟩
        replace h := flowK_go hk48
        refine (show At _ _ _ [] _ from ?_)
        refine At.inBlockHit ?_
        refine At.then ?_
        refine WC.seq ?_
        refine WC.region ?_
        refine WL.y (Y.assign rfl) rfl ?_
        refine WL.nil ?_
        refine At.then ?_
        refine WC.ret ?_
        obtain rfl := some1 h
        have hs93 : Stp [] (Lg.O0 A) w O43 wd44 := (Stp.trans (Stp.up hst21 rfl) (Stp.trans (Stp.up hst31 rfl) (Stp.up hst45 rfl)))
        exact At.res (.inl rfl) rfl (.tmp rfl .nil) ⟨rfl, (Stp.ext hs93 rfl rfl)⟩

theorem c_ref08_Same {A : Nat → Prop} {v0_3 : Value} {v0_5 : Value} {a0 : api_Hist} {v1_3 : Value} {v1_5 : Value} {a1 : api_Hist} {w : World} (hs0_3 : Sl Rep.u w A v0_3 a0.Pos.Counts) (hs0_5 : Sl Rep.u w A v0_5 a0.Neg.Counts) (hs1_3 : Sl Rep.u w A v1_3 a1.Pos.Counts) (hs1_5 : Sl Rep.u w A v1_5 a1.Neg.Counts) {r0 : Bool} (h : ref08_Same a0 a1 = some r0) : Rets Try.prog 22 [.agg [vi a0.Scale, vu a0.Zero, vi a0.Pos.Offset, v0_3, vi a0.Neg.Offset, v0_5].toArray, .agg [vi a1.Scale, vu a1.Zero, vi a1.Pos.Offset, v1_3, vi a1.Neg.Offset, v1_5].toArray] w (fun v w' => v = .bool r0 ∧ Ext w w') := by
  unfold ref08_Same at h
  refine Rets.enter Try.func22 rfl rfl ?_
  have hf11 : Sl Rep.u w (imm (Lg.O0 A)) v0_3 a0.Pos.Counts := (Sl.start hs0_3)
  have hf12 : Sl Rep.u w (imm (Lg.O0 A)) v0_5 a0.Neg.Counts := (Sl.start hs0_5)
  have hf13 : Sl Rep.u w (imm (Lg.O0 A)) v1_3 a1.Pos.Counts := (Sl.start hs1_3)
  have hf14 : Sl Rep.u w (imm (Lg.O0 A)) v1_5 a1.Neg.Counts := (Sl.start hs1_5)
  refine (show WC _ _ _ _ [(0, .agg [vi a0.Scale, vu a0.Zero, vi a0.Pos.Offset, v0_3, vi a0.Neg.Offset, v0_5].toArray), (1, .agg [vi a1.Scale, vu a1.Zero, vi a1.Pos.Offset, v1_3, vi a1.Neg.Offset, v1_5].toArray)] _ from ?_)
  refine WC.seq ?_
  refine WC.region ?_
  have hh18 := h
  obtain ⟨p15, m16, c17, rfl⟩ := hf11.shape
  have h := hh18
  have hh22 := h
  obtain ⟨p19, m20, c21, rfl⟩ := hf12.shape
  have h := hh22
  refine WL.box (O := (Lg.O0 A)) 11 [vi a0.Scale, vu a0.Zero, vi a0.Pos.Offset, (.slice p15 m16 c17), vi a0.Neg.Offset, (.slice p19 m20 c21)] rfl rfl rfl ?_
  intro p24 O25 wd26 hst27 hb23
  have hf28 := hf13.mono (imm_st hst27 rfl rfl)
  have hh32 := h
  obtain ⟨p29, m30, c31, rfl⟩ := hf28.shape
  have h := hh32
  have hf33 := hf14.mono (imm_st hst27 rfl rfl)
  have hh37 := h
  obtain ⟨p34, m35, c36, rfl⟩ := hf33.shape
  have h := hh37
  refine WL.box (O := O25) 12 [vi a1.Scale, vu a1.Zero, vi a1.Pos.Offset, (.slice p29 m30 c31), vi a1.Neg.Offset, (.slice p34 m35 c36)] rfl rfl rfl ?_
  intro p39 O40 wd41 hst42 hb38
  refine WL.y (Y.assign rfl) rfl ?_
  refine WL.nil ?_
  refine At.then ?_
  refine WC.seq ?_
  refine WC.region ?_
  refine WL.y (Y.fieldAddr fo27_0 rfl) rfl ?_
  have hf43 := hb23.st hst42 rfl
  refine WL.y (Y.loadSc ty3 rfl rfl (hf43.cell 0 _ rfl)) rfl ?_
  refine WL.y (Y.fieldAddr fo27_0 rfl) rfl ?_
  refine WL.y (Y.loadSc ty3 rfl rfl (hb38.cell 0 _ rfl)) rfl ?_
  refine WL.y (Y.eql_i rfl rfl) rfl ?_
  refine WL.y (Y.move rfl) rfl ?_
  refine WL.cut 6 (σ := Unit) (fun _ w' => wd41 = w') (fun _ => [(2, .pointer (some ⟨p24, 0, none⟩)), (3, .pointer (some ⟨p39, 0, none⟩)), (16, .bool ((decide (a0.Scale = a1.Scale)) && (decide (a0.Zero = a1.Zero))))]) ?_ ?_
  · refine WL.part 10 rfl (fun hE44 => ?_) (fun hE44 => ?_)
    · refine WL.ung rfl rfl ?_
      refine WL.y (Y.fieldAddr fo27_1 rfl) rfl ?_
      refine WL.ung rfl rfl ?_
      refine WL.y (Y.loadSc ty22 rfl rfl (hf43.cell 1 _ rfl)) rfl ?_
      refine WL.ung rfl rfl ?_
      refine WL.y (Y.fieldAddr fo27_1 rfl) rfl ?_
      refine WL.ung rfl rfl ?_
      refine WL.y (Y.loadSc ty22 rfl rfl (hb38.cell 1 _ rfl)) rfl ?_
      refine WL.ung rfl rfl ?_
      refine WL.y (Y.eql_u rfl rfl) rfl ?_
      refine WL.y (Y.pick (b := true) rfl rfl) rfl ?_
      refine WL.ren (v' := .bool ((decide (a0.Scale = a1.Scale)) && (decide (a0.Zero = a1.Zero)))) 16 rfl (congrArg Value.bool (andT hE44)) ?_
      exact WL.nil (At.join () rfl (.cons rfl (.cons rfl (.cons rfl .nil))))
    · refine WL.gS rfl rfl rfl rfl ?_
      refine WL.gS rfl rfl rfl rfl ?_
      refine WL.gS rfl rfl rfl rfl ?_
      refine WL.gS rfl rfl rfl rfl ?_
      refine WL.gS rfl rfl rfl rfl ?_
      refine WL.y (Y.pick (b := false) rfl rfl) rfl ?_
      refine WL.ren (v' := .bool ((decide (a0.Scale = a1.Scale)) && (decide (a0.Zero = a1.Zero)))) 16 rfl (congrArg Value.bool (andF hE44)) ?_
      exact WL.nil (At.join () rfl (.cons rfl (.cons rfl (.cons rfl .nil))))
  · rintro _ _ rfl
    refine (show WL _ _ _ _ _ [(2, .pointer (some ⟨p24, 0, none⟩)), (3, .pointer (some ⟨p39, 0, none⟩)), (16, .bool ((decide (a0.Scale = a1.Scale)) && (decide (a0.Zero = a1.Zero))))] _ from ?_)
    refine WL.y (Y.move rfl) rfl ?_
    obtain ⟨p49, h, hk50⟩ := bnd h
    refine WL.cut 6 (σ := (Bool × Own)) (fun x w' => x.1 = p49 ∧ Stp [] O40 wd41 x.2 w') (fun x => [(2, .pointer (some ⟨p24, 0, none⟩)), (3, .pointer (some ⟨p39, 0, none⟩)), (23, .bool x.1)]) ?_ ?_
    · rcases cnd h with ⟨hE51, h⟩ | ⟨hE51, h⟩
      · refine WL.ren 17 rfl (congrArg Value.bool hE51) ?_
        refine WL.ung rfl rfl ?_
        refine WL.y (Y.fieldAddr fo27_2 rfl) rfl ?_
        refine WL.ung rfl rfl ?_
        refine WL.y (Y.loadAg ty25 rfl rfl (hf43.cells 2 [vi a0.Pos.Offset, (.slice p15 m16 c17)] rfl) rfl) rfl ?_
        refine WL.ung rfl rfl ?_
        refine WL.y (Y.fieldAddr fo27_2 rfl) rfl ?_
        refine WL.ung rfl rfl ?_
        refine WL.y (Y.loadAg ty25 rfl rfl (hb38.cells 2 [vi a1.Pos.Offset, (.slice p29 m30 c31)] rfl) rfl) rfl ?_
        refine WL.ung rfl rfl ?_
        have hf52 := hf11.mono (imm_st hst27 rfl rfl)
        have hf53 := hf52.mono (imm_st hst42 rfl rfl)
        have hf54 := hf28.mono (imm_st hst42 rfl rfl)
        obtain ⟨r55, hp56, h⟩ := bnd h
        refine WL.call (vals := [.agg [vi a0.Pos.Offset, (.slice p15 m16 c17)].toArray, .agg [vi a1.Pos.Offset, (.slice p29 m30 c31)].toArray]) kok27 rfl rfl (c_ref08_SameSide (A := fun _ => True) (a0 := a0.Pos) (a1 := a1.Pos) (Sl.all hf53) (Sl.all hf54) hp56) ?_
        rintro vr59 wd58 ⟨rfl, hm57⟩
        obtain ⟨O60, hold61, hnew62, hst63⟩ := adoptE O40 (fun k => 1) hm57
        refine WL.y (Y.pick (b := true) rfl rfl) rfl ?_
        exact WL.nil (At.join (σ := (Bool × Own)) (r55, O60) ⟨some1 h, (Stp.up hst63 rfl)⟩ (.cons rfl (.cons rfl (.cons rfl .nil))))
      · refine WL.ren 17 rfl (congrArg Value.bool hE51) ?_
        refine WL.gS rfl rfl rfl rfl ?_
        refine WL.gS rfl rfl rfl rfl ?_
        refine WL.gS rfl rfl rfl rfl ?_
        refine WL.gS rfl rfl rfl rfl ?_
        refine WL.gS rfl rfl rfl rfl ?_
        refine WL.y (Y.pick (b := false) rfl rfl) rfl ?_
        exact WL.nil (At.join (σ := (Bool × Own)) (false, O40) ⟨some1 h, (Stp.refl _ _ _)⟩ (.cons rfl (.cons rfl (.cons rfl .nil))))
    · rintro ⟨x45, O46⟩ wd47 ⟨rfl, hst48⟩
      replace h := hk50
      try dsimp only at h hst48
      refine (show WL _ _ _ _ _ [(2, .pointer (some ⟨p24, 0, none⟩)), (3, .pointer (some ⟨p39, 0, none⟩)), (23, .bool x45)] _ from ?_)
      refine WL.y (Y.move rfl) rfl ?_
      obtain ⟨p68, h, hk69⟩ := bnd h
      refine WL.cut 6 (σ := (Bool × Own)) (fun x w' => x.1 = p68 ∧ Stp [] O46 wd47 x.2 w') (fun x => [(30, .bool x.1)]) ?_ ?_
      · rcases cnd h with ⟨hE70, h⟩ | ⟨hE70, h⟩
        · refine WL.ren 24 rfl (congrArg Value.bool hE70) ?_
          refine WL.ung rfl rfl ?_
          refine WL.y (Y.fieldAddr fo27_3 rfl) rfl ?_
          refine WL.ung rfl rfl ?_
          have hf71 := hf43.st hst48 rfl
          refine WL.y (Y.loadAg ty25 rfl rfl (hf71.cells 4 [vi a0.Neg.Offset, (.slice p19 m20 c21)] rfl) rfl) rfl ?_
          refine WL.ung rfl rfl ?_
          refine WL.y (Y.fieldAddr fo27_3 rfl) rfl ?_
          refine WL.ung rfl rfl ?_
          have hf72 := hb38.st hst48 rfl
          refine WL.y (Y.loadAg ty25 rfl rfl (hf72.cells 4 [vi a1.Neg.Offset, (.slice p34 m35 c36)] rfl) rfl) rfl ?_
          refine WL.ung rfl rfl ?_
          have hf73 := hf12.mono (imm_st hst27 rfl rfl)
          have hf74 := hf73.mono (imm_st hst42 rfl rfl)
          have hf75 := hf74.mono (imm_st hst48 rfl rfl)
          have hf76 := hf33.mono (imm_st hst42 rfl rfl)
          have hf77 := hf76.mono (imm_st hst48 rfl rfl)
          obtain ⟨r78, hp79, h⟩ := bnd h
          refine WL.call (vals := [.agg [vi a0.Neg.Offset, (.slice p19 m20 c21)].toArray, .agg [vi a1.Neg.Offset, (.slice p34 m35 c36)].toArray]) kok27 rfl rfl (c_ref08_SameSide (A := fun _ => True) (a0 := a0.Neg) (a1 := a1.Neg) (Sl.all hf75) (Sl.all hf77) hp79) ?_
          rintro vr82 wd81 ⟨rfl, hm80⟩
          obtain ⟨O83, hold84, hnew85, hst86⟩ := adoptE O46 (fun k => 1) hm80
          refine WL.y (Y.pick (b := true) rfl rfl) rfl ?_
          exact WL.nil (At.join (σ := (Bool × Own)) (r78, O83) ⟨some1 h, (Stp.up hst86 rfl)⟩ (.cons rfl .nil))
        · refine WL.ren 24 rfl (congrArg Value.bool hE70) ?_
          refine WL.gS rfl rfl rfl rfl ?_
          refine WL.gS rfl rfl rfl rfl ?_
          refine WL.gS rfl rfl rfl rfl ?_
          refine WL.gS rfl rfl rfl rfl ?_
          refine WL.gS rfl rfl rfl rfl ?_
          refine WL.y (Y.pick (b := false) rfl rfl) rfl ?_
          exact WL.nil (At.join (σ := (Bool × Own)) (false, O46) ⟨some1 h, (Stp.refl _ _ _)⟩ (.cons rfl .nil))
      · rintro ⟨x64, O65⟩ wd66 ⟨rfl, hst67⟩
        replace h := hk69
        try dsimp only at h hst67
        refine (show WL _ _ _ _ _ [(30, .bool x64)] _ from ?_)
        refine WL.y (Y.assign rfl) rfl ?_
        refine WL.nil ?_
        refine At.then ?_
        refine WC.ret ?_
        obtain rfl := some1 h
        have hs87 : Stp [] (Lg.O0 A) w O65 wd66 := (Stp.trans (Stp.up hst27 rfl) (Stp.trans (Stp.up hst42 rfl) (Stp.trans (Stp.up hst48 rfl) (Stp.up hst67 rfl))))
        exact At.res (.inl rfl) rfl (.tmp rfl .nil) ⟨rfl, (Stp.ext hs87 rfl rfl)⟩

theorem c_hist_At {A : Nat → Prop} {v0_1 : Value} {a0 : api_Side} {a1 : Int} {w : World} (hs0_1 : Sl Rep.u w A v0_1 a0.Counts) {r0 : UInt64} (h : hist_At a0 a1 = some r0) : Rets Try.prog 23 [.agg [vi a0.Offset, v0_1].toArray, vi a1] w (fun v w' => v = vu r0 ∧ Ext w w') := by
  unfold hist_At at h
  refine Rets.enter Try.func23 rfl rfl ?_
  have hf11 : Sl Rep.u w (imm (Lg.O0 A)) v0_1 a0.Counts := (Sl.start hs0_1)
  refine (show WC _ _ _ _ [(0, .agg [vi a0.Offset, v0_1].toArray), (1, vi a1)] _ from ?_)
  refine WC.seq ?_
  refine WC.region ?_
  have hh15 := h
  obtain ⟨p12, m13, c14, rfl⟩ := hf11.shape
  have h := hh15
  refine WL.box (O := (Lg.O0 A)) 11 [vi a0.Offset, (.slice p12 m13 c14)] rfl rfl rfl ?_
  intro p17 O18 wd19 hst20 hb16
  refine WL.y (Y.assign (v := vu 0) rfl) rfl ?_
  refine WL.nil ?_
  refine At.then ?_
  refine WC.seq ?_
  refine WC.seq ?_
  refine WC.region ?_
  refine WL.y (Y.move rfl) rfl ?_
  refine WL.y (Y.fieldAddr fo25_0 rfl) rfl ?_
  refine WL.y (Y.loadSc ty3 rfl rfl (hb16.cell 0 _ rfl)) rfl ?_
  refine WL.y (Y.lss_i rfl rfl) rfl ?_
  refine WL.y (Y.move rfl) rfl ?_
  refine WL.cut 12 (σ := Unit) (fun _ w' => wd19 = w') (fun _ => [(1, vi a1), (2, .pointer (some ⟨p17, 0, none⟩)), (21, .bool ((decide (a1 < a0.Offset)) || (decide (toU64 (a0.Counts.length : Int) ≤ ((toU64 a1) - (toU64 a0.Offset))))))]) ?_ ?_
  · refine WL.part 9 rfl (fun hE21 => ?_) (fun hE21 => ?_)
    · refine WL.gS rfl rfl rfl rfl ?_
      refine WL.gS rfl rfl rfl rfl ?_
      refine WL.gS rfl rfl rfl rfl ?_
      refine WL.gS rfl rfl rfl rfl ?_
      refine WL.gS rfl rfl rfl rfl ?_
      refine WL.gS rfl rfl rfl rfl ?_
      refine WL.gS rfl rfl rfl rfl ?_
      refine WL.gS rfl rfl rfl rfl ?_
      refine WL.gS rfl rfl rfl rfl ?_
      refine WL.gS rfl rfl rfl rfl ?_
      refine WL.gS rfl rfl rfl rfl ?_
      refine WL.y (Y.pick (b := true) rfl rfl) rfl ?_
      refine WL.ren (v' := .bool ((decide (a1 < a0.Offset)) || (decide (toU64 (a0.Counts.length : Int) ≤ ((toU64 a1) - (toU64 a0.Offset)))))) 21 rfl (congrArg Value.bool (orT hE21)) ?_
      exact WL.nil (At.join () rfl (.cons rfl (.cons rfl (.cons rfl .nil))))
    · refine WL.ung rfl rfl ?_
      refine WL.y (Y.move rfl) rfl ?_
      refine WL.ung rfl rfl ?_
      refine WL.y (Y.conv_iu ty3.u ty22.u rfl) rfl ?_
      refine WL.ung rfl rfl ?_
      refine WL.y (Y.fieldAddr fo25_0 rfl) rfl ?_
      refine WL.ung rfl rfl ?_
      refine WL.y (Y.loadSc ty3 rfl rfl (hb16.cell 0 _ rfl)) rfl ?_
      refine WL.ung rfl rfl ?_
      refine WL.y (Y.conv_iu ty3.u ty22.u rfl) rfl ?_
      refine WL.ung rfl rfl ?_
      refine WL.y (Y.sub_u rfl rfl) rfl ?_
      refine WL.ung rfl rfl ?_
      refine WL.y (Y.fieldAddr fo25_1 rfl) rfl ?_
      refine WL.ung rfl rfl ?_
      refine WL.y (Y.loadSc ty23 rfl rfl (hb16.cell 1 _ rfl)) rfl ?_
      refine WL.ung rfl rfl ?_
      have hf22 := hf11.mono (imm_st hst20 rfl rfl)
      refine WL.y (Y.len ty23 rfl hf22) rfl ?_
      refine WL.ung rfl rfl ?_
      refine WL.y (Y.conv_iu ty3.u ty22.u rfl) rfl ?_
      refine WL.ung rfl rfl ?_
      refine WL.y (Y.geq_u rfl rfl) rfl ?_
      refine WL.y (Y.pick (b := false) rfl rfl) rfl ?_
      refine WL.ren (v' := .bool ((decide (a1 < a0.Offset)) || (decide (toU64 (a0.Counts.length : Int) ≤ ((toU64 a1) - (toU64 a0.Offset)))))) 21 rfl (congrArg Value.bool (orF hE21)) ?_
      exact WL.nil (At.join () rfl (.cons rfl (.cons rfl (.cons rfl .nil))))
  · rintro _ _ rfl
    refine (show WL _ _ _ _ _ [(1, vi a1), (2, .pointer (some ⟨p17, 0, none⟩)), (21, .bool ((decide (a1 < a0.Offset)) || (decide (toU64 (a0.Counts.length : Int) ≤ ((toU64 a1) - (toU64 a0.Offset))))))] _ from ?_)
    refine WL.nil ?_
    refine At.then ?_
    rcases cnd h with ⟨hc23, h⟩ | ⟨hc23, h⟩
    · refine WC.condT' rfl hc23 ?_
      refine WC.seq ?_
      refine WC.region ?_
      refine WL.y (Y.assign (v := vu 0) rfl) rfl ?_
      refine WL.nil ?_
      refine At.then ?_
      refine WC.ret ?_
      refine At.thenR ?_
      obtain rfl := some1 h
      have hs24 : Stp [] (Lg.O0 A) w O18 wd19 := (Stp.up hst20 rfl)
      exact At.res (.inl rfl) rfl (.tmp rfl .nil) ⟨rfl, (Stp.ext hs24 rfl rfl)⟩
    · refine WC.condF' rfl hc23 ?_
      refine WC.skip ?_
      refine At.then ?_
      refine WC.seq ?_
      refine WC.region ?_
      refine WL.y (Y.fieldAddr fo25_1 rfl) rfl ?_
      refine WL.y (Y.loadSc ty23 rfl rfl (hb16.cell 1 _ rfl)) rfl ?_
      refine WL.y (Y.move rfl) rfl ?_
      refine WL.y (Y.fieldAddr fo25_0 rfl) rfl ?_
      refine WL.y (Y.loadSc ty3 rfl rfl (hb16.cell 0 _ rfl)) rfl ?_
      refine WL.y (Y.sub_i rfl rfl) rfl ?_
      obtain ⟨e25, he25, h⟩ := bnd h
      have hf34 := hf11.mono (imm_st hst20 rfl rfl)
      obtain ⟨b26, off35, cap33, cs32, hv27, hi28, hl29, hc30, hok31, hA36⟩ := Sl.at2 hf34 he25
      obtain rfl := hok31
      replace hc30 : CellsAt _ _ _ [vu e25] := hc30
      have hca37 := CAt.imm hc30 hA36
      refine WL.y (Y.indexAddr ty23 ty22 rfl hv27 rfl hi28 hl29) rfl ?_
      refine WL.y (Y.loadSc ty22 rfl rfl hca37.at_) rfl ?_
      refine WL.y (Y.assign rfl) rfl ?_
      refine WL.nil ?_
      refine At.then ?_
      refine WC.ret ?_
      obtain rfl := some1 h
      have hs38 : Stp [] (Lg.O0 A) w O18 wd19 := (Stp.up hst20 rfl)
      exact At.res (.inl rfl) rfl (.tmp rfl .nil) ⟨rfl, (Stp.ext hs38 rfl rfl)⟩

theorem c_fold_Level {A : Nat → Prop} {v0_3 : Value} {v0_5 : Value} {a0 : api_Hist} {v1_3 : Value} {v1_5 : Value} {a1 : api_Hist} {w : World} (hs0_3 : Sl Rep.u w A v0_3 a0.Pos.Counts) (hs0_5 : Sl Rep.u w A v0_5 a0.Neg.Counts) (hs1_3 : Sl Rep.u w A v1_3 a1.Pos.Counts) (hs1_5 : Sl Rep.u w A v1_5 a1.Neg.Counts) {r0 : api_Hist} {r1 : api_Hist} {r2 : Int} (h : fold_Level a0 a1 = some (r0, r1, r2)) : Rets Try.prog 38 [.agg [vi a0.Scale, vu a0.Zero, vi a0.Pos.Offset, v0_3, vi a0.Neg.Offset, v0_5].toArray, .agg [vi a1.Scale, vu a1.Zero, vi a1.Pos.Offset, v1_3, vi a1.Neg.Offset, v1_5].toArray] w (fun v w' => ∃ (u0_3 : Value) (u0_5 : Value) (u1_3 : Value) (u1_5 : Value), v = .tuple (List.toArray [.agg (List.toArray [vi r0.Scale, vu r0.Zero, vi r0.Pos.Offset, u0_3, vi r0.Neg.Offset, u0_5]), .agg (List.toArray [vi r1.Scale, vu r1.Zero, vi r1.Pos.Offset, u1_3, vi r1.Neg.Offset, u1_5]), vi r2]) ∧ Ext w w' ∧ Sl Rep.u w' (fun k => w.heap.size ≤ k) u0_3 r0.Pos.Counts ∧ Sl Rep.u w' (fun k => w.heap.size ≤ k) u0_5 r0.Neg.Counts ∧ Sl Rep.u w' (fun k => w.heap.size ≤ k) u1_3 r1.Pos.Counts ∧ Sl Rep.u w' (fun k => w.heap.size ≤ k) u1_5 r1.Neg.Counts) := by
  unfold fold_Level at h
  refine Rets.enter Try.func38 rfl rfl ?_
  have hf11 : Sl Rep.u w (imm (Lg.O0 A)) v0_3 a0.Pos.Counts := (Sl.start hs0_3)
  have hf12 : Sl Rep.u w (imm (Lg.O0 A)) v0_5 a0.Neg.Counts := (Sl.start hs0_5)
  have hf13 : Sl Rep.u w (imm (Lg.O0 A)) v1_3 a1.Pos.Counts := (Sl.start hs1_3)
  have hf14 : Sl Rep.u w (imm (Lg.O0 A)) v1_5 a1.Neg.Counts := (Sl.start hs1_5)
  refine (show WC _ _ _ _ [(0, .agg [vi a0.Scale, vu a0.Zero, vi a0.Pos.Offset, v0_3, vi a0.Neg.Offset, v0_5].toArray), (1, .agg [vi a1.Scale, vu a1.Zero, vi a1.Pos.Offset, v1_3, vi a1.Neg.Offset, v1_5].toArray)] _ from ?_)
  refine WC.seq ?_
  refine WC.region ?_
  have hh18 := h
  obtain ⟨p15, m16, c17, rfl⟩ := hf11.shape
  have h := hh18
  have hh22 := h
  obtain ⟨p19, m20, c21, rfl⟩ := hf12.shape
  have h := hh22
  refine WL.box (O := (Lg.O0 A)) 11 [vi a0.Scale, vu a0.Zero, vi a0.Pos.Offset, (.slice p15 m16 c17), vi a0.Neg.Offset, (.slice p19 m20 c21)] rfl rfl rfl ?_
  intro p24 O25 wd26 hst27 hb23
  have hf28 := hf13.mono (imm_st hst27 rfl rfl)
  have hh32 := h
  obtain ⟨p29, m30, c31, rfl⟩ := hf28.shape
  have h := hh32
  have hf33 := hf14.mono (imm_st hst27 rfl rfl)
  have hh37 := h
  obtain ⟨p34, m35, c36, rfl⟩ := hf33.shape
  have h := hh37
  refine WL.box (O := O25) 12 [vi a1.Scale, vu a1.Zero, vi a1.Pos.Offset, (.slice p29 m30 c31), vi a1.Neg.Offset, (.slice p34 m35 c36)] rfl rfl rfl ?_
  intro p39 O40 wd41 hst42 hb38
  refine WL.alloc (O := O40) 13 [vi 0, vu 0, vi 0, .slice none 0 0, vi 0, .slice none 0 0] ty27 rfl rfl ?_
  intro p44 O45 wd46 hst47 hb43
  refine WL.alloc (O := O45) 14 [vi 0, vu 0, vi 0, .slice none 0 0, vi 0, .slice none 0 0] ty27 rfl rfl ?_
  intro p49 O50 wd51 hst52 hb48
  refine WL.y (Y.assign rfl) rfl ?_
  refine WL.nil ?_
  refine At.then ?_
  refine WC.seq ?_
  refine WC.seq ?_
  refine WC.region ?_
  have hf53 := hb23.st hst42 rfl
  have hf54 := hf53.st hst47 rfl
  have hf55 := hf54.st hst52 rfl
  refine WL.y (Y.loadAg ty27 rfl rfl (hf55.cells 0 [vi a0.Scale, vu a0.Zero, vi a0.Pos.Offset, (.slice p15 m16 c17), vi a0.Neg.Offset, (.slice p19 m20 c21)] rfl) rfl) rfl ?_
  have hf56 := hb38.st hst47 rfl
  have hf57 := hf56.st hst52 rfl
  refine WL.y (Y.loadAg ty27 rfl rfl (hf57.cells 0 [vi a1.Scale, vu a1.Zero, vi a1.Pos.Offset, (.slice p29 m30 c31), vi a1.Neg.Offset, (.slice p34 m35 c36)] rfl) rfl) rfl ?_
  refine WL.y (Y.build (vals := [(0, .agg [vi a0.Scale, vu a0.Zero, vi a0.Pos.Offset, (.slice p15 m16 c17), vi a0.Neg.Offset, (.slice p19 m20 c21)].toArray), (1, .agg [vi a1.Scale, vu a1.Zero, vi a1.Pos.Offset, (.slice p29 m30 c31), vi a1.Neg.Offset, (.slice p34 m35 c36)].toArray)]) (cells := [vi a0.Scale, vu a0.Zero, vi a0.Pos.Offset, (.slice p15 m16 c17), vi a0.Neg.Offset, (.slice p19 m20 c21), vi a1.Scale, vu a1.Zero, vi a1.Pos.Offset, (.slice p29 m30 c31), vi a1.Neg.Offset, (.slice p34 m35 c36)]) (Fits.evalp rfl) (by kernel_rfl)) rfl ?_
  refine WL.y (Y.move rfl) rfl ?_
  refine WL.nil ?_
  refine At.then ?_
  obtain ⟨p61, h, hk62⟩ := flow1 h
  refine WC.join (σ := Own) (fun x w' => p61 = .go () ∧ Stp [15] O50 wd51 x w') (fun x => [(2, .pointer (some ⟨p24, 0, none⟩)), (3, .pointer (some ⟨p39, 0, none⟩)), (4, .pointer (some ⟨p44, 0, none⟩)), (5, .pointer (some ⟨p49, 0, none⟩))]) ?_ ?_
  · refine WC.block ?_
    obtain ⟨p70, h, hk72⟩ := flow1 h
    obtain ⟨k71, h⟩ := loop_some h
    refine WC.joinB 0 (σ := Own) (fun x w' => p70 = .go () ∧ Stp [15] O50 wd51 x w') (fun x => [(2, .pointer (some ⟨p24, 0, none⟩)), (3, .pointer (some ⟨p39, 0, none⟩)), (4, .pointer (some ⟨p44, 0, none⟩)), (5, .pointer (some ⟨p49, 0, none⟩))]) ?_ ?_
    · refine WC.loop (σ := (Int × Own)) (fun x k w' => loopN k (fold_Level_lp1 a0 a1) x.1 = some p70 ∧ Stp [15] O50 wd51 x.2 w') (fun x => [(2, .pointer (some ⟨p24, 0, none⟩)), (3, .pointer (some ⟨p39, 0, none⟩)), (4, .pointer (some ⟨p44, 0, none⟩)), (5, .pointer (some ⟨p49, 0, none⟩)), (13, .agg [vi a0.Scale, vu a0.Zero, vi a0.Pos.Offset, (.slice p15 m16 c17), vi a0.Neg.Offset, (.slice p19 m20 c21), vi a1.Scale, vu a1.Zero, vi a1.Pos.Offset, (.slice p29 m30 c31), vi a1.Neg.Offset, (.slice p34 m35 c36)].toArray), (14, vi x.1)]) (0, O50) k71 (.cons rfl (.cons rfl (.cons rfl (.cons rfl (.cons rfl (.cons rfl .nil)))))) ⟨h, (Stp.refl _ _ _)⟩ ?_
      rintro ⟨x63, O64⟩ k71 wd65 ⟨h, hst66⟩
      obtain ⟨j73, q74, rfl, h, hn75⟩ := rnd1 h
      unfold fold_Level_lp1 at h
      try dsimp only at h hst66
      refine (show WC _ _ _ _ [(2, .pointer (some ⟨p24, 0, none⟩)), (3, .pointer (some ⟨p39, 0, none⟩)), (4, .pointer (some ⟨p44, 0, none⟩)), (5, .pointer (some ⟨p49, 0, none⟩)), (13, .agg [vi a0.Scale, vu a0.Zero, vi a0.Pos.Offset, (.slice p15 m16 c17), vi a0.Neg.Offset, (.slice p19 m20 c21), vi a1.Scale, vu a1.Zero, vi a1.Pos.Offset, (.slice p29 m30 c31), vi a1.Neg.Offset, (.slice p34 m35 c36)].toArray), (14, vi x63)] _ from ?_)
      refine WC.seq ?_
      refine WC.region ?_
      refine WL.y (Y.lss_i rfl rfl) rfl ?_
      refine WL.nil ?_
      refine At.then ?_
      refine WC.seq ?_
      rcases cnd h with ⟨hc76, h⟩ | ⟨hc76, h⟩
      · refine WC.condT' rfl hc76 ?_
        refine WC.skip ?_
        refine At.then ?_
        refine WC.seq ?_
        refine WC.block ?_
        refine WC.seq ?_
        refine WC.region ?_
        have hf77 := hf11.mono (imm_st hst27 rfl rfl)
        have hf78 := hf77.mono (imm_st hst42 rfl rfl)
        have hf79 := hf78.mono (imm_st hst47 rfl rfl)
        have hf80 := hf79.mono (imm_st hst52 rfl rfl)
        have hf81 := hf80.mono (imm_st hst66 rfl rfl)
        have hf82 := hf12.mono (imm_st hst27 rfl rfl)
        have hf83 := hf82.mono (imm_st hst42 rfl rfl)
        have hf84 := hf83.mono (imm_st hst47 rfl rfl)
        have hf85 := hf84.mono (imm_st hst52 rfl rfl)
        have hf86 := hf85.mono (imm_st hst66 rfl rfl)
        have hf87 := hf28.mono (imm_st hst42 rfl rfl)
        have hf88 := hf87.mono (imm_st hst47 rfl rfl)
        have hf89 := hf88.mono (imm_st hst52 rfl rfl)
        have hf90 := hf89.mono (imm_st hst66 rfl rfl)
        have hf91 := hf33.mono (imm_st hst42 rfl rfl)
        have hf92 := hf91.mono (imm_st hst47 rfl rfl)
        have hf93 := hf92.mono (imm_st hst52 rfl rfl)
        have hf94 := hf93.mono (imm_st hst66 rfl rfl)
        obtain ⟨e95, he95, h⟩ := bnd h
        obtain ⟨cs96, hcs97, hok98⟩ := arrAt (R := rep_api_Hist) (w := wd65) (A := imm O64) (cells := [vi a0.Scale, vu a0.Zero, vi a0.Pos.Offset, (.slice p15 m16 c17), vi a0.Neg.Offset, (.slice p19 m20 c21), vi a1.Scale, vu a1.Zero, vi a1.Pos.Offset, (.slice p29 m30 c31), vi a1.Neg.Offset, (.slice p34 m35 c36)]) (xs := [a0, a1]) ⟨[vi a0.Scale, vu a0.Zero, vi a0.Pos.Offset, (.slice p15 m16 c17), vi a0.Neg.Offset, (.slice p19 m20 c21)], [vi a1.Scale, vu a1.Zero, vi a1.Pos.Offset, (.slice p29 m30 c31), vi a1.Neg.Offset, (.slice p34 m35 c36)], rfl, ⟨[vi a0.Scale], [vu a0.Zero, vi a0.Pos.Offset, (.slice p15 m16 c17), vi a0.Neg.Offset, (.slice p19 m20 c21)], rfl, rfl, ⟨[vu a0.Zero], [vi a0.Pos.Offset, (.slice p15 m16 c17), vi a0.Neg.Offset, (.slice p19 m20 c21)], rfl, rfl, ⟨[vi a0.Pos.Offset, (.slice p15 m16 c17)], [vi a0.Neg.Offset, (.slice p19 m20 c21)], rfl, ⟨[vi a0.Pos.Offset], [(.slice p15 m16 c17)], rfl, rfl, ⟨_, rfl, hf81⟩⟩, ⟨[vi a0.Neg.Offset], [(.slice p19 m20 c21)], rfl, rfl, ⟨_, rfl, hf86⟩⟩⟩⟩⟩, ⟨[vi a1.Scale, vu a1.Zero, vi a1.Pos.Offset, (.slice p29 m30 c31), vi a1.Neg.Offset, (.slice p34 m35 c36)], [], rfl, ⟨[vi a1.Scale], [vu a1.Zero, vi a1.Pos.Offset, (.slice p29 m30 c31), vi a1.Neg.Offset, (.slice p34 m35 c36)], rfl, rfl, ⟨[vu a1.Zero], [vi a1.Pos.Offset, (.slice p29 m30 c31), vi a1.Neg.Offset, (.slice p34 m35 c36)], rfl, rfl, ⟨[vi a1.Pos.Offset, (.slice p29 m30 c31)], [vi a1.Neg.Offset, (.slice p34 m35 c36)], rfl, ⟨[vi a1.Pos.Offset], [(.slice p29 m30 c31)], rfl, rfl, ⟨_, rfl, hf90⟩⟩, ⟨[vi a1.Neg.Offset], [(.slice p34 m35 c36)], rfl, rfl, ⟨_, rfl, hf94⟩⟩⟩⟩⟩, rfl⟩⟩ he95
        obtain ⟨_, _, rfl, rfl, ⟨_, _, rfl, rfl, ⟨_, _, rfl, ⟨_, _, rfl, rfl, ⟨v99, rfl, hf100⟩⟩, ⟨_, _, rfl, rfl, ⟨v101, rfl, hf102⟩⟩⟩⟩⟩ := hok98
        replace hcs97 : _ = [vi e95.Scale, vu e95.Zero, vi e95.Pos.Offset, v99, vi e95.Neg.Offset, v101] := hcs97
        refine WL.y (Y.indexArrAg ty97 ty27 rfl rfl hcs97 he95) rfl ?_
        refine WL.alloc (O := O64) 15 [vi 0, vu 0, vi 0, .slice none 0 0, vi 0, .slice none 0 0] ty27 rfl rfl ?_
        intro p104 O105 wd106 hst107 hb103
        have hf108 := hf100.mono (imm_st hst107 rfl rfl)
        have hh112 := h
        obtain ⟨p109, m110, c111, rfl⟩ := hf108.shape
        have h := hh112
        have hf113 := hf102.mono (imm_st hst107 rfl rfl)
        have hh117 := h
        obtain ⟨p114, m115, c116, rfl⟩ := hf113.shape
        have h := hh117
        refine WL.store (v := .agg [vi e95.Scale, vu e95.Zero, vi e95.Pos.Offset, (.slice p109 m110 c111), vi e95.Neg.Offset, (.slice p114 m115 c116)].toArray) (cells' := [vi e95.Scale, vu e95.Zero, vi e95.Pos.Offset, (.slice p109 m110 c111), vi e95.Neg.Offset, (.slice p114 m115 c116)]) ty27 rfl rfl hb103 rfl (Nat.le_of_ble_eq_true rfl) rfl rfl ?_
        intro wd118 hst119 hb120
        refine WL.nil ?_
        refine At.then ?_
        refine WC.seq ?_
        refine WC.region ?_
        refine WL.y (Y.loadAg ty27 rfl rfl (hb120.cells 0 [vi e95.Scale, vu e95.Zero, vi e95.Pos.Offset, (.slice p109 m110 c111), vi e95.Neg.Offset, (.slice p114 m115 c116)] rfl) rfl) rfl ?_
        have hf121 := hf108.mono (imm_st hst119 rfl rfl)
        have hf122 := hf113.mono (imm_st hst119 rfl rfl)
        obtain ⟨r123, hp124, h⟩ := bnd h
        refine WL.call (vals := [.agg [vi e95.Scale, vu e95.Zero, vi e95.Pos.Offset, (.slice p109 m110 c111), vi e95.Neg.Offset, (.slice p114 m115 c116)].toArray]) kok19 rfl rfl (c_hist_Check (A := fun _ => True) (a0 := e95) (Sl.all hf121) (Sl.all hf122) hp124) ?_
        rintro vr127 wd126 ⟨rfl, hm125⟩
        obtain ⟨O128, hold129, hnew130, hst131⟩ := adoptE O105 (fun k => 1) hm125
        refine WL.y (Y.assign rfl) rfl ?_
        refine WL.nil ?_
        refine At.then ?_
        refine WC.seq ?_
        refine WC.region ?_
        refine WL.y (Y.move rfl) rfl ?_
        refine WL.y (Y.neq_i rfl rfl) rfl ?_
        refine WL.nil ?_
        refine At.then ?_
        rcases cnd h with ⟨hc132, h⟩ | ⟨hc132, h⟩
        · refine WC.condT' rfl hc132 ?_
          refine WC.seq ?_
          refine WC.region ?_
          refine WL.y (Y.build (vals := []) (cells := [vi 0, vu 0, vi 0, .slice none 0 0, vi 0, .slice none 0 0]) (Fits.evalp rfl) (by kernel_rfl)) rfl ?_
          refine WL.y (Y.build (vals := []) (cells := [vi 0, vu 0, vi 0, .slice none 0 0, vi 0, .slice none 0 0]) (Fits.evalp rfl) (by kernel_rfl)) rfl ?_
          refine WL.y (Y.move rfl) rfl ?_
          have hf133 := hb43.st hst52 rfl
          have hf134 := hf133.st hst66 rfl
          have hf135 := hf134.st hst107 rfl
          have hf136 := hf135.st hst119 rfl
          have hf137 := hf136.st hst131 rfl
          refine WL.store (v := .agg [vi 0, vu 0, vi 0, .slice none 0 0, vi 0, .slice none 0 0].toArray) (cells' := [vi 0, vu 0, vi 0, .slice none 0 0, vi 0, .slice none 0 0]) ty27 rfl rfl hf137 rfl (Nat.le_of_ble_eq_true rfl) rfl rfl ?_
          intro wd138 hst139 hb140
          have hf141 := hb48.st hst66 rfl
          have hf142 := hf141.st hst107 rfl
          have hf143 := hf142.st hst119 rfl
          have hf144 := hf143.st hst131 rfl
          have hf145 := hf144.st hst139 rfl
          refine WL.store (v := .agg [vi 0, vu 0, vi 0, .slice none 0 0, vi 0, .slice none 0 0].toArray) (cells' := [vi 0, vu 0, vi 0, .slice none 0 0, vi 0, .slice none 0 0]) ty27 rfl rfl hf145 rfl (Nat.le_of_ble_eq_true rfl) rfl rfl ?_
          intro wd146 hst147 hb148
          refine WL.y (Y.assign rfl) rfl ?_
          refine WL.nil ?_
          refine At.then ?_
          refine WC.ret ?_
          refine At.inBlockR ?_
          refine At.thenR ?_
          refine At.loopR ?_
          have h := outr1 h hn75 hk72
          refine At.joinBR ?_
          refine At.inBlockR ?_
          have h := outs1 h hk62
          refine At.joinR ?_
          refine At.thenR ?_
          obtain ⟨rfl, rfl, rfl⟩ := tup3 h
          have hs149 : Stp [13, 14, 15] (Lg.O0 A) w O128 wd146 := (Stp.trans (Stp.up hst27 rfl) (Stp.trans (Stp.up hst42 rfl) (Stp.trans (Stp.up hst47 rfl) (Stp.trans (Stp.up hst52 rfl) (Stp.trans (Stp.up hst66 rfl) (Stp.trans (Stp.up hst107 rfl) (Stp.trans (Stp.up hst119 rfl) (Stp.trans (Stp.up hst131 rfl) (Stp.trans (Stp.up hst139 rfl) (Stp.up hst147 rfl))))))))))
          have hf150 := hb140.st hst147 rfl
          exact At.res (.inl rfl) rfl (.cell rfl (hf150.runAg 0 [vi 0, vu 0, vi 0, .slice none 0 0, vi 0, .slice none 0 0] ty27 rfl rfl rfl) (.cell rfl (hb148.runAg 0 [vi 0, vu 0, vi 0, .slice none 0 0, vi 0, .slice none 0 0] ty27 rfl rfl rfl) (.tmp rfl .nil))) ⟨.slice none 0 0, .slice none 0 0, .slice none 0 0, .slice none 0 0, rfl, (Stp.ext hs149 rfl rfl), (Or.inl ⟨rfl, rfl⟩), (Or.inl ⟨rfl, rfl⟩), (Or.inl ⟨rfl, rfl⟩), (Or.inl ⟨rfl, rfl⟩)⟩
        · refine WC.condF' rfl hc132 ?_
          refine WC.skip ?_
          refine At.inBlock ?_
          refine At.then ?_
          refine WC.region ?_
          refine WL.y (Y.add_i rfl rfl) rfl ?_
          refine WL.y (Y.move rfl) rfl ?_
          refine WL.nil ?_
          exact At.round (w64 (x63 + 1), O128) j73 (Nat.lt_succ_self _) ⟨next1 h hn75, (Stp.trans (Stp.up hst66 rfl) (Stp.trans (Stp.up hst107 rfl) (Stp.trans (Stp.up hst119 rfl) (Stp.up hst131 rfl))))⟩ (.cons rfl (.cons rfl (.cons rfl (.cons rfl (.cons rfl (.cons rfl .nil))))))
      · refine WC.condF' rfl hc76 ?_
        refine WC.exit ?_
        refine At.thenX ?_
        refine At.loopX ?_
        exact At.hitB (σ := Own) O64 ⟨brk1 h hn75, (Stp.up hst66 rfl)⟩ (.cons rfl (.cons rfl (.cons rfl (.cons rfl .nil))))
    · rintro O67 wd68 ⟨rfl, hst69⟩
      replace h := flowK_go hk72
      refine (show At _ _ _ [(2, .pointer (some ⟨p24, 0, none⟩)), (3, .pointer (some ⟨p39, 0, none⟩)), (4, .pointer (some ⟨p44, 0, none⟩)), (5, .pointer (some ⟨p49, 0, none⟩))] _ from ?_)
      refine At.inBlockHit ?_
      exact At.join (σ := Own) O67 ⟨go2 h, (Stp.up hst69 rfl)⟩ (.cons rfl (.cons rfl (.cons rfl (.cons rfl .nil))))
  · rintro O58 wd59 ⟨rfl, hst60⟩
    replace h := flowK_go hk62
    refine (show At _ _ _ [(2, .pointer (some ⟨p24, 0, none⟩)), (3, .pointer (some ⟨p39, 0, none⟩)), (4, .pointer (some ⟨p44, 0, none⟩)), (5, .pointer (some ⟨p49, 0, none⟩))] _ from ?_)
    refine At.then ?_
    refine WC.seq ?_
    refine WC.region ?_
    refine WL.y (Y.fieldAddr fo27_0 rfl) rfl ?_
    have hf151 := hf55.st hst60 rfl
    refine WL.y (Y.loadSc ty3 rfl rfl (hf151.cell 0 _ rfl)) rfl ?_
    refine WL.y (Y.fieldAddr fo27_0 rfl) rfl ?_
    have hf152 := hf57.st hst60 rfl
    refine WL.y (Y.loadSc ty3 rfl rfl (hf152.cell 0 _ rfl)) rfl ?_
    refine WL.y (Y.min_i rfl rfl) rfl ?_
    obtain ⟨scale153, hscale153, h⟩ := lt1 h
    refine WL.yE (Y.assign rfl) (congrArg vi hscale153.symm) rfl ?_
    refine WL.nil ?_
    refine At.then ?_
    refine WC.seq ?_
    refine WC.region ?_
    refine WL.y (Y.loadAg ty27 rfl rfl (hf151.cells 0 [vi a0.Scale, vu a0.Zero, vi a0.Pos.Offset, (.slice p15 m16 c17), vi a0.Neg.Offset, (.slice p19 m20 c21)] rfl) rfl) rfl ?_
    refine WL.y (Y.fieldAddr fo27_0 rfl) rfl ?_
    refine WL.y (Y.loadSc ty3 rfl rfl (hf151.cell 0 _ rfl)) rfl ?_
    refine WL.y (Y.move rfl) rfl ?_
    refine WL.y (Y.sub_i rfl rfl) rfl ?_
    have hf154 := hf11.mono (imm_st hst27 rfl rfl)
    have hf155 := hf154.mono (imm_st hst42 rfl rfl)
    have hf156 := hf155.mono (imm_st hst47 rfl rfl)
    have hf157 := hf156.mono (imm_st hst52 rfl rfl)
    have hf158 := hf157.mono (imm_st hst60 rfl rfl)
    have hf159 := hf12.mono (imm_st hst27 rfl rfl)
    have hf160 := hf159.mono (imm_st hst42 rfl rfl)
    have hf161 := hf160.mono (imm_st hst47 rfl rfl)
    have hf162 := hf161.mono (imm_st hst52 rfl rfl)
    have hf163 := hf162.mono (imm_st hst60 rfl rfl)
    obtain ⟨⟨r164, r165⟩, hp166, h⟩ := bnd h
    refine WL.call (vals := [.agg [vi a0.Scale, vu a0.Zero, vi a0.Pos.Offset, (.slice p15 m16 c17), vi a0.Neg.Offset, (.slice p19 m20 c21)].toArray, vi (w64 (a0.Scale - scale153))]) kok21 rfl rfl (c_hist_Down (A := fun _ => True) (a0 := a0) (Sl.all hf158) (Sl.all hf163) hp166) ?_
    rintro vr173 wd172 ⟨u167, u168, rfl, hm171, f169, f170⟩
    obtain ⟨O174, hold175, hnew176, hst177⟩ := adoptE O58 (fun k => 1) hm171
    have hf178 : Sl Rep.u wd172 (frs O174) u167 r164.Pos.Counts := Sl.adoptF f169 (fun k hk => ⟨hk, rfl⟩) hnew176
    have hf179 : Sl Rep.u wd172 (frs O174) u168 r164.Neg.Counts := Sl.adoptF f170 (fun k hk => ⟨hk, rfl⟩) hnew176
    refine WL.y (Y.move rfl) rfl ?_
    refine WL.y (Y.extract rfl rfl) rfl ?_
    refine WL.y (Y.extract rfl rfl) rfl ?_
    have hh183 := h
    obtain ⟨p180, m181, c182, rfl⟩ := hf178.shape
    have h := hh183
    have hh187 := h
    obtain ⟨p184, m185, c186, rfl⟩ := hf179.shape
    have h := hh187
    have hf188 := hb43.st hst52 rfl
    have hf189 := hf188.st hst60 rfl
    have hf190 := hf189.st hst177 rfl
    refine WL.store (v := .agg [vi r164.Scale, vu r164.Zero, vi r164.Pos.Offset, (.slice p180 m181 c182), vi r164.Neg.Offset, (.slice p184 m185 c186)].toArray) (cells' := [vi r164.Scale, vu r164.Zero, vi r164.Pos.Offset, (.slice p180 m181 c182), vi r164.Neg.Offset, (.slice p184 m185 c186)]) ty27 rfl rfl hf190 rfl (Nat.le_of_ble_eq_true rfl) rfl rfl ?_
    intro wd191 hst192 hb193
    refine WL.nil ?_
    refine At.then ?_
    refine WC.seq ?_
    refine WC.region ?_
    have hf194 := hf152.st hst177 rfl
    have hf195 := hf194.st hst192 rfl
    refine WL.y (Y.loadAg ty27 rfl rfl (hf195.cells 0 [vi a1.Scale, vu a1.Zero, vi a1.Pos.Offset, (.slice p29 m30 c31), vi a1.Neg.Offset, (.slice p34 m35 c36)] rfl) rfl) rfl ?_
    refine WL.y (Y.fieldAddr fo27_0 rfl) rfl ?_
    refine WL.y (Y.loadSc ty3 rfl rfl (hf195.cell 0 _ rfl)) rfl ?_
    refine WL.y (Y.move rfl) rfl ?_
    refine WL.y (Y.sub_i rfl rfl) rfl ?_
    have hf196 := hf28.mono (imm_st hst42 rfl rfl)
    have hf197 := hf196.mono (imm_st hst47 rfl rfl)
    have hf198 := hf197.mono (imm_st hst52 rfl rfl)
    have hf199 := hf198.mono (imm_st hst60 rfl rfl)
    have hf200 := hf199.mono (imm_st hst177 rfl rfl)
    have hf201 := hf200.mono (imm_st hst192 rfl rfl)
    have hf202 := hf33.mono (imm_st hst42 rfl rfl)
    have hf203 := hf202.mono (imm_st hst47 rfl rfl)
    have hf204 := hf203.mono (imm_st hst52 rfl rfl)
    have hf205 := hf204.mono (imm_st hst60 rfl rfl)
    have hf206 := hf205.mono (imm_st hst177 rfl rfl)
    have hf207 := hf206.mono (imm_st hst192 rfl rfl)
    obtain ⟨⟨r208, r209⟩, hp210, h⟩ := bnd h
    refine WL.call (vals := [.agg [vi a1.Scale, vu a1.Zero, vi a1.Pos.Offset, (.slice p29 m30 c31), vi a1.Neg.Offset, (.slice p34 m35 c36)].toArray, vi (w64 (a1.Scale - scale153))]) kok21 rfl rfl (c_hist_Down (A := fun _ => True) (a0 := a1) (Sl.all hf201) (Sl.all hf207) hp210) ?_
    rintro vr217 wd216 ⟨u211, u212, rfl, hm215, f213, f214⟩
    obtain ⟨O218, hold219, hnew220, hst221⟩ := adoptE O174 (fun k => 1) hm215
    have hf222 : Sl Rep.u wd216 (frs O218) u211 r208.Pos.Counts := Sl.adoptF f213 (fun k hk => ⟨hk, rfl⟩) hnew220
    have hf223 : Sl Rep.u wd216 (frs O218) u212 r208.Neg.Counts := Sl.adoptF f214 (fun k hk => ⟨hk, rfl⟩) hnew220
    refine WL.y (Y.move rfl) rfl ?_
    refine WL.y (Y.extract rfl rfl) rfl ?_
    refine WL.y (Y.extract rfl rfl) rfl ?_
    have hh227 := h
    obtain ⟨p224, m225, c226, rfl⟩ := hf222.shape
    have h := hh227
    have hh231 := h
    obtain ⟨p228, m229, c230, rfl⟩ := hf223.shape
    have h := hh231
    have hf232 := hb48.st hst60 rfl
    have hf233 := hf232.st hst177 rfl
    have hf234 := hf233.st hst192 rfl
    have hf235 := hf234.st hst221 rfl
    refine WL.store (v := .agg [vi r208.Scale, vu r208.Zero, vi r208.Pos.Offset, (.slice p224 m225 c226), vi r208.Neg.Offset, (.slice p228 m229 c230)].toArray) (cells' := [vi r208.Scale, vu r208.Zero, vi r208.Pos.Offset, (.slice p224 m225 c226), vi r208.Neg.Offset, (.slice p228 m229 c230)]) ty27 rfl rfl hf235 rfl (Nat.le_of_ble_eq_true rfl) rfl rfl ?_
    intro wd236 hst237 hb238
    refine WL.nil ?_
    refine At.then ?_
    refine WC.seq ?_
    refine WC.drawH [13] [0, 1, 2] O218 5 fmix rfl (by kernel_rfl) ?_
    intro wd239 hst240
    refine WD.y 1 rfl (by kernel_rfl) (fun wd242 O241 hst243 => have hf244 := hb238.st hst240 rfl; have hf245 := hf244.st hst243 rfl; Y.loadAg ty27 rfl rfl (hf245.cells 0 [vi r208.Scale, vu r208.Zero, vi r208.Pos.Offset, (.slice p224 m225 c226), vi r208.Neg.Offset, (.slice p228 m229 c230)] rfl) rfl) rfl ?_
    refine WD.heavy 0 rfl (by kernel_rfl) ?_
    have hf246 := hb193.st hst221 rfl
    have hf247 := hf246.st hst237 rfl
    have hf248 := hf247.st hst240 rfl
    refine WL.y (Y.loadAg ty27 rfl rfl (hf248.cells 0 [vi r164.Scale, vu r164.Zero, vi r164.Pos.Offset, (.slice p180 m181 c182), vi r164.Neg.Offset, (.slice p184 m185 c186)] rfl) rfl) rfl ?_
    refine WL.nil ?_
    refine At.dq (Stp.refl _ _ _) ?_
    refine WD.heavy 2 rfl (by kernel_rfl) ?_
    refine WL.store (v := .agg [vi r164.Scale, vu r164.Zero, vi r164.Pos.Offset, (.slice p180 m181 c182), vi r164.Neg.Offset, (.slice p184 m185 c186)].toArray) (cells' := [vi r164.Scale, vu r164.Zero, vi r164.Pos.Offset, (.slice p180 m181 c182), vi r164.Neg.Offset, (.slice p184 m185 c186)]) ty27 rfl rfl hf248 rfl (Nat.le_of_ble_eq_true rfl) rfl rfl ?_
    intro wd249 hst250 hb251
    refine WL.nil ?_
    refine At.dq (Stp.up hst250 rfl) ?_
    refine WD.phase [14] [0, 1, 2, 3, 4] (by kernel_rfl) (by kernel_rfl) ?_
    refine WD.heavy 3 rfl (by kernel_rfl) ?_
    have hf252 := hb238.st hst240 rfl
    have hf253 := hf252.st hst250 rfl
    refine WL.store (v := .agg [vi r208.Scale, vu r208.Zero, vi r208.Pos.Offset, (.slice p224 m225 c226), vi r208.Neg.Offset, (.slice p228 m229 c230)].toArray) (cells' := [vi r208.Scale, vu r208.Zero, vi r208.Pos.Offset, (.slice p224 m225 c226), vi r208.Neg.Offset, (.slice p228 m229 c230)]) ty27 rfl rfl hf253 rfl (Nat.le_of_ble_eq_true rfl) rfl rfl ?_
    intro wd254 hst255 hb256
    refine WL.nil ?_
    refine At.dq (Stp.up hst255 rfl) ?_
    refine WD.y 4 rfl (by kernel_rfl) (fun _ _ _ => Y.assign rfl) rfl ?_
    refine WD.done_ (by kernel_rfl) ?_
    refine At.then ?_
    refine WC.ret ?_
    obtain ⟨rfl, rfl, rfl⟩ := tup3 h
    have hs260 : Stp [13, 14, 15] (Lg.O0 A) w O218 wd254 := (Stp.trans (Stp.up hst27 rfl) (Stp.trans (Stp.up hst42 rfl) (Stp.trans (Stp.up hst47 rfl) (Stp.trans (Stp.up hst52 rfl) (Stp.trans (Stp.up hst60 rfl) (Stp.trans (Stp.up hst177 rfl) (Stp.trans (Stp.up hst192 rfl) (Stp.trans (Stp.up hst221 rfl) (Stp.trans (Stp.up hst237 rfl) (Stp.trans (Stp.up hst240 rfl) (Stp.trans (Stp.up hst250 rfl) (Stp.up hst255 rfl))))))))))))
    have hf261 := hf178.mono (frs_st hst192 rfl)
    have hf262 := hf261.mono (frs_st hst221 rfl)
    have hf263 := hf262.mono (frs_st hst237 rfl)
    have hf264 := hf263.mono (frs_st hst240 rfl)
    have hf265 := hf264.mono (frs_st hst250 rfl)
    have hf266 := hf265.mono (frs_st hst255 rfl)
    have hf267 := hf179.mono (frs_st hst192 rfl)
    have hf268 := hf267.mono (frs_st hst221 rfl)
    have hf269 := hf268.mono (frs_st hst237 rfl)
    have hf270 := hf269.mono (frs_st hst240 rfl)
    have hf271 := hf270.mono (frs_st hst250 rfl)
    have hf272 := hf271.mono (frs_st hst255 rfl)
    have hf273 := hf222.mono (frs_st hst237 rfl)
    have hf274 := hf273.mono (frs_st hst240 rfl)
    have hf275 := hf274.mono (frs_st hst250 rfl)
    have hf276 := hf275.mono (frs_st hst255 rfl)
    have hf277 := hf223.mono (frs_st hst237 rfl)
    have hf278 := hf277.mono (frs_st hst240 rfl)
    have hf279 := hf278.mono (frs_st hst250 rfl)
    have hf280 := hf279.mono (frs_st hst255 rfl)
    have hf281 := hb251.st hst255 rfl
    exact At.res (.inl rfl) rfl (.cell rfl (hf281.runAg 0 [vi r164.Scale, vu r164.Zero, vi r164.Pos.Offset, (.slice p180 m181 c182), vi r164.Neg.Offset, (.slice p184 m185 c186)] ty27 rfl rfl rfl) (.cell rfl (hb256.runAg 0 [vi r208.Scale, vu r208.Zero, vi r208.Pos.Offset, (.slice p224 m225 c226), vi r208.Neg.Offset, (.slice p228 m229 c230)] ty27 rfl rfl rfl) (.tmp rfl .nil))) ⟨(.slice p180 m181 c182), (.slice p184 m185 c186), (.slice p224 m225 c226), (.slice p228 m229 c230), rfl, (Stp.ext hs260 rfl rfl), (Sl.outF hf266 hs260 low0), (Sl.outF hf272 hs260 low0), (Sl.outF hf276 hs260 low0), (Sl.outF hf280 hs260 low0)⟩

theorem c_fold_ends {A : Nat → Prop} {v0_1 : Value} {a0 : api_Side} {w : World} (hs0_1 : Sl Rep.u w A v0_1 a0.Counts) {r0 : Int} {r1 : Int} (h : fold_ends a0 = some (r0, r1)) : Rets Try.prog 98 [.agg [vi a0.Offset, v0_1].toArray] w (fun v w' => v = .tuple (List.toArray [vi r0, vi r1]) ∧ Ext w w') := by
  unfold fold_ends at h
  refine Rets.enter Try.func98 rfl rfl ?_
  have hf11 : Sl Rep.u w (imm (Lg.O0 A)) v0_1 a0.Counts := (Sl.start hs0_1)
  refine (show WC _ _ _ _ [(0, .agg [vi a0.Offset, v0_1].toArray)] _ from ?_)
  refine WC.seq ?_
  refine WC.region ?_
  have hh15 := h
  obtain ⟨p12, m13, c14, rfl⟩ := hf11.shape
  have h := hh15
  refine WL.box (O := (Lg.O0 A)) 11 [vi a0.Offset, (.slice p12 m13 c14)] rfl rfl rfl ?_
  intro p17 O18 wd19 hst20 hb16
  refine WL.y (Y.assign rfl) rfl ?_
  refine WL.y (Y.assign rfl) rfl ?_
  refine WL.nil ?_
  refine At.then ?_
  refine WC.seq ?_
  refine WC.draw 9 O18 fmix (by kernel_rfl) ?_
  intro wd21 hst22
  refine WS.y (Y.fieldAddr fo25_0 rfl) rfl ?_
  have hf23 := hb16.st hst22 rfl
  refine WS.y (Y.loadSc ty3 rfl rfl (hf23.cell 0 _ rfl)) rfl ?_
  refine WS.y (Y.fieldAddr fo25_0 rfl) rfl ?_
  refine WS.y (Y.loadSc ty3 rfl rfl (hf23.cell 0 _ rfl)) rfl ?_
  refine WS.y (Y.fieldAddr fo25_1 rfl) rfl ?_
  refine WS.y (Y.loadSc ty23 rfl rfl (hf23.cell 1 _ rfl)) rfl ?_
  have hf24 := hf11.mono (imm_st hst20 rfl rfl)
  have hf25 := hf24.mono (imm_st hst22 rfl rfl)
  refine WS.y (Y.len ty23 rfl hf25) rfl ?_
  refine WS.y (Y.add_i rfl rfl) rfl ?_
  refine WS.y (Y.assign rfl) rfl ?_
  refine WS.tail ?_
  obtain ⟨to26, hto26, h⟩ := lt1 h
  refine WL.yE (Y.assign rfl) (congrArg vi hto26.symm) rfl ?_
  refine WL.nil ?_
  refine At.then ?_
  refine WC.ret ?_
  obtain ⟨rfl, rfl⟩ := tup2 h
  have hs27 : Stp [] (Lg.O0 A) w O18 wd21 := (Stp.trans (Stp.up hst20 rfl) (Stp.up hst22 rfl))
  exact At.res (.inl rfl) rfl (.tmp rfl (.tmp rfl .nil)) ⟨rfl, (Stp.ext hs27 rfl rfl)⟩

theorem c_fold_cover {A : Nat → Prop} {v0_1 : Value} {a0 : api_Side} {v1_1 : Value} {a1 : api_Side} {w : World} (hs0_1 : Sl Rep.u w A v0_1 a0.Counts) (hs1_1 : Sl Rep.u w A v1_1 a1.Counts) {r0 : Int} {r1 : Int} (h : fold_cover a0 a1 = some (r0, r1)) : Rets Try.prog 71 [.agg [vi a0.Offset, v0_1].toArray, .agg [vi a1.Offset, v1_1].toArray] w (fun v w' => v = .tuple (List.toArray [vi r0, vi r1]) ∧ Ext w w') := by
  unfold fold_cover at h
  refine Rets.enter Try.func71 rfl rfl ?_
  have hf11 : Sl Rep.u w (imm (Lg.O0 A)) v0_1 a0.Counts := (Sl.start hs0_1)
  have hf12 : Sl Rep.u w (imm (Lg.O0 A)) v1_1 a1.Counts := (Sl.start hs1_1)
  refine (show WC _ _ _ _ [(0, .agg [vi a0.Offset, v0_1].toArray), (1, .agg [vi a1.Offset, v1_1].toArray)] _ from ?_)
  refine WC.seq ?_
  refine WC.region ?_
  have hh16 := h
  obtain ⟨p13, m14, c15, rfl⟩ := hf11.shape
  have h := hh16
  refine WL.box (O := (Lg.O0 A)) 11 [vi a0.Offset, (.slice p13 m14 c15)] rfl rfl rfl ?_
  intro p18 O19 wd20 hst21 hb17
  have hf22 := hf12.mono (imm_st hst21 rfl rfl)
  have hh26 := h
  obtain ⟨p23, m24, c25, rfl⟩ := hf22.shape
  have h := hh26
  refine WL.box (O := O19) 12 [vi a1.Offset, (.slice p23 m24 c25)] rfl rfl rfl ?_
  intro p28 O29 wd30 hst31 hb27
  refine WL.y (Y.assign rfl) rfl ?_
  refine WL.y (Y.assign rfl) rfl ?_
  refine WL.nil ?_
  refine At.then ?_
  refine WC.seq ?_
  refine WC.seq ?_
  refine WC.region ?_
  refine WL.y (Y.fieldAddr fo25_1 rfl) rfl ?_
  have hf32 := hb17.st hst31 rfl
  refine WL.y (Y.loadSc ty23 rfl rfl (hf32.cell 1 _ rfl)) rfl ?_
  have hf33 := hf11.mono (imm_st hst21 rfl rfl)
  have hf34 := hf33.mono (imm_st hst31 rfl rfl)
  refine WL.y (Y.len ty23 rfl hf34) rfl ?_
  refine WL.y (Y.eql_i rfl rfl) rfl ?_
  refine WL.nil ?_
  refine At.then ?_
  rcases cnd h with ⟨hc35, h⟩ | ⟨hc35, h⟩
  · refine WC.condT' rfl hc35 ?_
    refine WC.seq ?_
    refine WC.draw 6 O29 fmix (by kernel_rfl) ?_
    intro wd36 hst37
    refine WS.y (Y.fieldAddr fo25_0 rfl) rfl ?_
    have hf38 := hb27.st hst37 rfl
    refine WS.y (Y.loadSc ty3 rfl rfl (hf38.cell 0 _ rfl)) rfl ?_
    refine WS.y (Y.fieldAddr fo25_1 rfl) rfl ?_
    refine WS.y (Y.loadSc ty23 rfl rfl (hf38.cell 1 _ rfl)) rfl ?_
    have hf39 := hf22.mono (imm_st hst31 rfl rfl)
    have hf40 := hf39.mono (imm_st hst37 rfl rfl)
    refine WS.y (Y.len ty23 rfl hf40) rfl ?_
    refine WS.y (Y.assign rfl) rfl ?_
    refine WS.tail ?_
    obtain ⟨nv41, hnv41, h⟩ := lt1 h
    refine WL.yE (Y.assign rfl) (congrArg vi hnv41.symm) rfl ?_
    refine WL.nil ?_
    refine At.then ?_
    refine WC.ret ?_
    refine At.thenR ?_
    obtain ⟨rfl, rfl⟩ := tup2 h
    have hs42 : Stp [] (Lg.O0 A) w O29 wd36 := (Stp.trans (Stp.up hst21 rfl) (Stp.trans (Stp.up hst31 rfl) (Stp.up hst37 rfl)))
    exact At.res (.inl rfl) rfl (.tmp rfl (.tmp rfl .nil)) ⟨rfl, (Stp.ext hs42 rfl rfl)⟩
  · refine WC.condF' rfl hc35 ?_
    refine WC.skip ?_
    refine At.then ?_
    refine WC.seq ?_
    refine WC.seq ?_
    refine WC.region ?_
    refine WL.y (Y.fieldAddr fo25_1 rfl) rfl ?_
    refine WL.y (Y.loadSc ty23 rfl rfl (hb27.cell 1 _ rfl)) rfl ?_
    have hf43 := hf22.mono (imm_st hst31 rfl rfl)
    refine WL.y (Y.len ty23 rfl hf43) rfl ?_
    refine WL.y (Y.eql_i rfl rfl) rfl ?_
    refine WL.nil ?_
    refine At.then ?_
    rcases cnd h with ⟨hc44, h⟩ | ⟨hc44, h⟩
    · refine WC.condT' rfl hc44 ?_
      refine WC.seq ?_
      refine WC.draw 6 O29 fmix (by kernel_rfl) ?_
      intro wd45 hst46
      refine WS.y (Y.fieldAddr fo25_0 rfl) rfl ?_
      have hf47 := hf32.st hst46 rfl
      refine WS.y (Y.loadSc ty3 rfl rfl (hf47.cell 0 _ rfl)) rfl ?_
      refine WS.y (Y.fieldAddr fo25_1 rfl) rfl ?_
      refine WS.y (Y.loadSc ty23 rfl rfl (hf47.cell 1 _ rfl)) rfl ?_
      have hf48 := hf34.mono (imm_st hst46 rfl rfl)
      refine WS.y (Y.len ty23 rfl hf48) rfl ?_
      refine WS.y (Y.assign rfl) rfl ?_
      refine WS.tail ?_
      obtain ⟨nv49, hnv49, h⟩ := lt1 h
      refine WL.yE (Y.assign rfl) (congrArg vi hnv49.symm) rfl ?_
      refine WL.nil ?_
      refine At.then ?_
      refine WC.ret ?_
      refine At.thenR ?_
      obtain ⟨rfl, rfl⟩ := tup2 h
      have hs50 : Stp [] (Lg.O0 A) w O29 wd45 := (Stp.trans (Stp.up hst21 rfl) (Stp.trans (Stp.up hst31 rfl) (Stp.up hst46 rfl)))
      exact At.res (.inl rfl) rfl (.tmp rfl (.tmp rfl .nil)) ⟨rfl, (Stp.ext hs50 rfl rfl)⟩
    · refine WC.condF' rfl hc44 ?_
      refine WC.skip ?_
      refine At.then ?_
      refine WC.seq ?_
      refine WC.region ?_
      refine WL.y (Y.loadAg ty25 rfl rfl (hf32.cells 0 [vi a0.Offset, (.slice p13 m14 c15)] rfl) rfl) rfl ?_
      obtain ⟨⟨r51, r52⟩, hp53, h⟩ := bnd h
      refine WL.call (vals := [.agg [vi a0.Offset, (.slice p13 m14 c15)].toArray]) kok98 rfl rfl (c_fold_ends (A := fun _ => True) (a0 := a0) (Sl.all hf34) hp53) ?_
      rintro vr56 wd55 ⟨rfl, hm54⟩
      obtain ⟨O57, hold58, hnew59, hst60⟩ := adoptE O29 (fun k => 1) hm54
      refine WL.y (Y.move rfl) rfl ?_
      refine WL.y (Y.extract rfl rfl) rfl ?_
      refine WL.y (Y.extract rfl rfl) rfl ?_
      refine WL.y (Y.assign rfl) rfl ?_
      refine WL.y (Y.assign rfl) rfl ?_
      refine WL.nil ?_
      refine At.then ?_
      refine WC.seq ?_
      refine WC.region ?_
      have hf61 := hb27.st hst60 rfl
      refine WL.y (Y.loadAg ty25 rfl rfl (hf61.cells 0 [vi a1.Offset, (.slice p23 m24 c25)] rfl) rfl) rfl ?_
      have hf62 := hf43.mono (imm_st hst60 rfl rfl)
      obtain ⟨⟨r63, r64⟩, hp65, h⟩ := bnd h
      refine WL.call (vals := [.agg [vi a1.Offset, (.slice p23 m24 c25)].toArray]) kok98 rfl rfl (c_fold_ends (A := fun _ => True) (a0 := a1) (Sl.all hf62) hp65) ?_
      rintro vr68 wd67 ⟨rfl, hm66⟩
      obtain ⟨O69, hold70, hnew71, hst72⟩ := adoptE O57 (fun k => 1) hm66
      refine WL.y (Y.move rfl) rfl ?_
      refine WL.y (Y.extract rfl rfl) rfl ?_
      refine WL.y (Y.extract rfl rfl) rfl ?_
      refine WL.y (Y.assign rfl) rfl ?_
      refine WL.y (Y.assign rfl) rfl ?_
      refine WL.nil ?_
      refine At.then ?_
      refine WC.seq ?_
      refine WC.region ?_
      refine WL.y (Y.move rfl) rfl ?_
      refine WL.y (Y.move rfl) rfl ?_
      refine WL.y (Y.min_i rfl rfl) rfl ?_
      refine WL.y (Y.move rfl) rfl ?_
      refine WL.y (Y.move rfl) rfl ?_
      refine WL.y (Y.max_i rfl rfl) rfl ?_
      obtain ⟨from73, hfrom73, h⟩ := lt1 h
      refine WL.yE (Y.assign rfl) (congrArg vi hfrom73.symm) rfl ?_
      obtain ⟨end74, hend74, h⟩ := lt1 h
      refine WL.yE (Y.assign rfl) (congrArg vi hend74.symm) rfl ?_
      refine WL.nil ?_
      refine At.then ?_
      refine WC.seq ?_
      refine WC.region ?_
      refine WL.y (Y.move rfl) rfl ?_
      refine WL.y (Y.move rfl) rfl ?_
      refine WL.y (Y.move rfl) rfl ?_
      refine WL.y (Y.sub_i rfl rfl) rfl ?_
      refine WL.y (Y.assign rfl) rfl ?_
      obtain ⟨nv75, hnv75, h⟩ := lt1 h
      refine WL.yE (Y.assign rfl) (congrArg vi hnv75.symm) rfl ?_
      refine WL.nil ?_
      refine At.then ?_
      refine WC.ret ?_
      obtain ⟨rfl, rfl⟩ := tup2 h
      have hs76 : Stp [] (Lg.O0 A) w O69 wd67 := (Stp.trans (Stp.up hst21 rfl) (Stp.trans (Stp.up hst31 rfl) (Stp.trans (Stp.up hst60 rfl) (Stp.up hst72 rfl))))
      exact At.res (.inl rfl) rfl (.tmp rfl (.tmp rfl .nil)) ⟨rfl, (Stp.ext hs76 rfl rfl)⟩

theorem c_fold_Merge {A : Nat → Prop} {v0_3 : Value} {v0_5 : Value} {a0 : api_Hist} {v1_3 : Value} {v1_5 : Value} {a1 : api_Hist} {w : World} (hs0_3 : Sl Rep.u w A v0_3 a0.Pos.Counts) (hs0_5 : Sl Rep.u w A v0_5 a0.Neg.Counts) (hs1_3 : Sl Rep.u w A v1_3 a1.Pos.Counts) (hs1_5 : Sl Rep.u w A v1_5 a1.Neg.Counts) {r0 : api_Hist} {r1 : Int} (h : fold_Merge a0 a1 = some (r0, r1)) : Rets Try.prog 40 [.agg [vi a0.Scale, vu a0.Zero, vi a0.Pos.Offset, v0_3, vi a0.Neg.Offset, v0_5].toArray, .agg [vi a1.Scale, vu a1.Zero, vi a1.Pos.Offset, v1_3, vi a1.Neg.Offset, v1_5].toArray] w (fun v w' => ∃ (u0_3 : Value) (u0_5 : Value), v = .tuple (List.toArray [.agg (List.toArray [vi r0.Scale, vu r0.Zero, vi r0.Pos.Offset, u0_3, vi r0.Neg.Offset, u0_5]), vi r1]) ∧ Ext w w' ∧ Sl Rep.u w' (fun k => w.heap.size ≤ k) u0_3 r0.Pos.Counts ∧ Sl Rep.u w' (fun k => w.heap.size ≤ k) u0_5 r0.Neg.Counts) := by
  unfold fold_Merge at h
  refine Rets.enter Try.func40 rfl rfl ?_
  have hf11 : Sl Rep.u w (imm (Lg.O0 A)) v0_3 a0.Pos.Counts := (Sl.start hs0_3)
  have hf12 : Sl Rep.u w (imm (Lg.O0 A)) v0_5 a0.Neg.Counts := (Sl.start hs0_5)
  have hf13 : Sl Rep.u w (imm (Lg.O0 A)) v1_3 a1.Pos.Counts := (Sl.start hs1_3)
  have hf14 : Sl Rep.u w (imm (Lg.O0 A)) v1_5 a1.Neg.Counts := (Sl.start hs1_5)
  refine (show WC _ _ _ _ [(0, .agg [vi a0.Scale, vu a0.Zero, vi a0.Pos.Offset, v0_3, vi a0.Neg.Offset, v0_5].toArray), (1, .agg [vi a1.Scale, vu a1.Zero, vi a1.Pos.Offset, v1_3, vi a1.Neg.Offset, v1_5].toArray)] _ from ?_)
  refine WC.seq ?_
  refine WC.region ?_
  have hh18 := h
  obtain ⟨p15, m16, c17, rfl⟩ := hf11.shape
  have h := hh18
  have hh22 := h
  obtain ⟨p19, m20, c21, rfl⟩ := hf12.shape
  have h := hh22
  refine WL.box (O := (Lg.O0 A)) 11 [vi a0.Scale, vu a0.Zero, vi a0.Pos.Offset, (.slice p15 m16 c17), vi a0.Neg.Offset, (.slice p19 m20 c21)] rfl rfl rfl ?_
  intro p24 O25 wd26 hst27 hb23
  have hf28 := hf13.mono (imm_st hst27 rfl rfl)
  have hh32 := h
  obtain ⟨p29, m30, c31, rfl⟩ := hf28.shape
  have h := hh32
  have hf33 := hf14.mono (imm_st hst27 rfl rfl)
  have hh37 := h
  obtain ⟨p34, m35, c36, rfl⟩ := hf33.shape
  have h := hh37
  refine WL.box (O := O25) 12 [vi a1.Scale, vu a1.Zero, vi a1.Pos.Offset, (.slice p29 m30 c31), vi a1.Neg.Offset, (.slice p34 m35 c36)] rfl rfl rfl ?_
  intro p39 O40 wd41 hst42 hb38
  refine WL.alloc (O := O40) 13 [vi 0, vu 0, vi 0, .slice none 0 0, vi 0, .slice none 0 0] ty27 rfl rfl ?_
  intro p44 O45 wd46 hst47 hb43
  refine WL.y (Y.assign rfl) rfl ?_
  refine WL.nil ?_
  refine At.then ?_
  refine WC.seq ?_
  refine WC.region ?_
  have hf48 := hb23.st hst42 rfl
  have hf49 := hf48.st hst47 rfl
  refine WL.y (Y.loadAg ty27 rfl rfl (hf49.cells 0 [vi a0.Scale, vu a0.Zero, vi a0.Pos.Offset, (.slice p15 m16 c17), vi a0.Neg.Offset, (.slice p19 m20 c21)] rfl) rfl) rfl ?_
  have hf50 := hb38.st hst47 rfl
  refine WL.y (Y.loadAg ty27 rfl rfl (hf50.cells 0 [vi a1.Scale, vu a1.Zero, vi a1.Pos.Offset, (.slice p29 m30 c31), vi a1.Neg.Offset, (.slice p34 m35 c36)] rfl) rfl) rfl ?_
  have hf51 := hf11.mono (imm_st hst27 rfl rfl)
  have hf52 := hf51.mono (imm_st hst42 rfl rfl)
  have hf53 := hf52.mono (imm_st hst47 rfl rfl)
  have hf54 := hf12.mono (imm_st hst27 rfl rfl)
  have hf55 := hf54.mono (imm_st hst42 rfl rfl)
  have hf56 := hf55.mono (imm_st hst47 rfl rfl)
  have hf57 := hf28.mono (imm_st hst42 rfl rfl)
  have hf58 := hf57.mono (imm_st hst47 rfl rfl)
  have hf59 := hf33.mono (imm_st hst42 rfl rfl)
  have hf60 := hf59.mono (imm_st hst47 rfl rfl)
  obtain ⟨⟨r61, r62, r63⟩, hp64, h⟩ := bnd h
  refine WL.call (vals := [.agg [vi a0.Scale, vu a0.Zero, vi a0.Pos.Offset, (.slice p15 m16 c17), vi a0.Neg.Offset, (.slice p19 m20 c21)].toArray, .agg [vi a1.Scale, vu a1.Zero, vi a1.Pos.Offset, (.slice p29 m30 c31), vi a1.Neg.Offset, (.slice p34 m35 c36)].toArray]) kok38 rfl rfl (c_fold_Level (A := fun _ => True) (a0 := a0) (a1 := a1) (Sl.all hf53) (Sl.all hf56) (Sl.all hf58) (Sl.all hf60) hp64) ?_
  rintro vr75 wd74 ⟨u65, u66, u67, u68, rfl, hm73, f69, f70, f71, f72⟩
  obtain ⟨O76, hold77, hnew78, hst79⟩ := adoptE O45 (fun k => 1) hm73
  have hf80 : Sl Rep.u wd74 (frs O76) u65 r61.Pos.Counts := Sl.adoptF f69 (fun k hk => ⟨hk, rfl⟩) hnew78
  have hf81 : Sl Rep.u wd74 (frs O76) u66 r61.Neg.Counts := Sl.adoptF f70 (fun k hk => ⟨hk, rfl⟩) hnew78
  have hf82 : Sl Rep.u wd74 (frs O76) u67 r62.Pos.Counts := Sl.adoptF f71 (fun k hk => ⟨hk, rfl⟩) hnew78
  have hf83 : Sl Rep.u wd74 (frs O76) u68 r62.Neg.Counts := Sl.adoptF f72 (fun k hk => ⟨hk, rfl⟩) hnew78
  refine WL.y (Y.move rfl) rfl ?_
  refine WL.y (Y.extract rfl rfl) rfl ?_
  refine WL.y (Y.extract rfl rfl) rfl ?_
  refine WL.y (Y.extract rfl rfl) rfl ?_
  refine WL.alloc (O := O76) 14 [vi 0, vu 0, vi 0, .slice none 0 0, vi 0, .slice none 0 0] ty27 rfl rfl ?_
  intro p85 O86 wd87 hst88 hb84
  refine WL.alloc (O := O86) 15 [vi 0, vu 0, vi 0, .slice none 0 0, vi 0, .slice none 0 0] ty27 rfl rfl ?_
  intro p90 O91 wd92 hst93 hb89
  have hf94 := hf80.mono (frs_st hst88 rfl)
  have hf95 := hf94.mono (frs_st hst93 rfl)
  have hh99 := h
  obtain ⟨p96, m97, c98, rfl⟩ := hf95.shape
  have h := hh99
  have hf100 := hf81.mono (frs_st hst88 rfl)
  have hf101 := hf100.mono (frs_st hst93 rfl)
  have hh105 := h
  obtain ⟨p102, m103, c104, rfl⟩ := hf101.shape
  have h := hh105
  have hf106 := hb84.st hst93 rfl
  refine WL.store (v := .agg [vi r61.Scale, vu r61.Zero, vi r61.Pos.Offset, (.slice p96 m97 c98), vi r61.Neg.Offset, (.slice p102 m103 c104)].toArray) (cells' := [vi r61.Scale, vu r61.Zero, vi r61.Pos.Offset, (.slice p96 m97 c98), vi r61.Neg.Offset, (.slice p102 m103 c104)]) ty27 rfl rfl hf106 rfl (Nat.le_of_ble_eq_true rfl) rfl rfl ?_
  intro wd107 hst108 hb109
  have hf110 := hf82.mono (frs_st hst88 rfl)
  have hf111 := hf110.mono (frs_st hst93 rfl)
  have hf112 := hf111.mono (frs_st hst108 rfl)
  have hh116 := h
  obtain ⟨p113, m114, c115, rfl⟩ := hf112.shape
  have h := hh116
  have hf117 := hf83.mono (frs_st hst88 rfl)
  have hf118 := hf117.mono (frs_st hst93 rfl)
  have hf119 := hf118.mono (frs_st hst108 rfl)
  have hh123 := h
  obtain ⟨p120, m121, c122, rfl⟩ := hf119.shape
  have h := hh123
  have hf124 := hb89.st hst108 rfl
  refine WL.store (v := .agg [vi r62.Scale, vu r62.Zero, vi r62.Pos.Offset, (.slice p113 m114 c115), vi r62.Neg.Offset, (.slice p120 m121 c122)].toArray) (cells' := [vi r62.Scale, vu r62.Zero, vi r62.Pos.Offset, (.slice p113 m114 c115), vi r62.Neg.Offset, (.slice p120 m121 c122)]) ty27 rfl rfl hf124 rfl (Nat.le_of_ble_eq_true rfl) rfl rfl ?_
  intro wd125 hst126 hb127
  refine WL.y (Y.assign rfl) rfl ?_
  refine WL.nil ?_
  refine At.then ?_
  refine WC.seq ?_
  refine WC.seq ?_
  refine WC.region ?_
  refine WL.y (Y.move rfl) rfl ?_
  refine WL.y (Y.neq_i rfl rfl) rfl ?_
  refine WL.nil ?_
  refine At.then ?_
  rcases cnd h with ⟨hc128, h⟩ | ⟨hc128, h⟩
  · refine WC.condT' rfl hc128 ?_
    refine WC.seq ?_
    refine WC.region ?_
    refine WL.y (Y.build (vals := []) (cells := [vi 0, vu 0, vi 0, .slice none 0 0, vi 0, .slice none 0 0]) (Fits.evalp rfl) (by kernel_rfl)) rfl ?_
    refine WL.y (Y.move rfl) rfl ?_
    have hf129 := hb43.st hst79 rfl
    have hf130 := hf129.st hst88 rfl
    have hf131 := hf130.st hst93 rfl
    have hf132 := hf131.st hst108 rfl
    have hf133 := hf132.st hst126 rfl
    refine WL.store (v := .agg [vi 0, vu 0, vi 0, .slice none 0 0, vi 0, .slice none 0 0].toArray) (cells' := [vi 0, vu 0, vi 0, .slice none 0 0, vi 0, .slice none 0 0]) ty27 rfl rfl hf133 rfl (Nat.le_of_ble_eq_true rfl) rfl rfl ?_
    intro wd134 hst135 hb136
    refine WL.y (Y.assign rfl) rfl ?_
    refine WL.nil ?_
    refine At.then ?_
    refine WC.ret ?_
    refine At.thenR ?_
    obtain ⟨rfl, rfl⟩ := tup2 h
    have hs137 : Stp [13, 14, 15] (Lg.O0 A) w O91 wd134 := (Stp.trans (Stp.up hst27 rfl) (Stp.trans (Stp.up hst42 rfl) (Stp.trans (Stp.up hst47 rfl) (Stp.trans (Stp.up hst79 rfl) (Stp.trans (Stp.up hst88 rfl) (Stp.trans (Stp.up hst93 rfl) (Stp.trans (Stp.up hst108 rfl) (Stp.trans (Stp.up hst126 rfl) (Stp.up hst135 rfl)))))))))
    exact At.res (.inl rfl) rfl (.cell rfl (hb136.runAg 0 [vi 0, vu 0, vi 0, .slice none 0 0, vi 0, .slice none 0 0] ty27 rfl rfl rfl) (.tmp rfl .nil)) ⟨.slice none 0 0, .slice none 0 0, rfl, (Stp.ext hs137 rfl rfl), (Or.inl ⟨rfl, rfl⟩), (Or.inl ⟨rfl, rfl⟩)⟩
  · refine WC.condF' rfl hc128 ?_
    refine WC.skip ?_
    refine At.then ?_
    refine WC.seq ?_
    refine WC.region ?_
    have hf138 := hb109.st hst126 rfl
    refine WL.y (Y.loadAg ty27 rfl rfl (hf138.cells 0 [vi r61.Scale, vu r61.Zero, vi r61.Pos.Offset, (.slice p96 m97 c98), vi r61.Neg.Offset, (.slice p102 m103 c104)] rfl) rfl) rfl ?_
    have hf139 := hf95.mono (frs_st hst108 rfl)
    have hf140 := hf139.mono (frs_st hst126 rfl)
    have hf141 := hf101.mono (frs_st hst108 rfl)
    have hf142 := hf141.mono (frs_st hst126 rfl)
    obtain ⟨⟨r143, r144⟩, hp145, h⟩ := bnd h
    refine WL.call (vals := [.agg [vi r61.Scale, vu r61.Zero, vi r61.Pos.Offset, (.slice p96 m97 c98), vi r61.Neg.Offset, (.slice p102 m103 c104)].toArray]) kok17 rfl rfl (c_hist_Total (A := fun _ => True) (a0 := r61) (Sl.all hf140) (Sl.all hf142) hp145) ?_
    rintro vr148 wd147 ⟨rfl, hm146⟩
    obtain ⟨O149, hold150, hnew151, hst152⟩ := adoptE O91 (fun k => 1) hm146
    refine WL.y (Y.move rfl) rfl ?_
    refine WL.y (Y.extract rfl rfl) rfl ?_
    refine WL.y (Y.extract rfl rfl) rfl ?_
    refine WL.y (Y.assign rfl) rfl ?_
    refine WL.y (Y.assign rfl) rfl ?_
    refine WL.nil ?_
    refine At.then ?_
    refine WC.seq ?_
    refine WC.region ?_
    have hf153 := hb127.st hst152 rfl
    refine WL.y (Y.loadAg ty27 rfl rfl (hf153.cells 0 [vi r62.Scale, vu r62.Zero, vi r62.Pos.Offset, (.slice p113 m114 c115), vi r62.Neg.Offset, (.slice p120 m121 c122)] rfl) rfl) rfl ?_
    have hf154 := hf112.mono (frs_st hst126 rfl)
    have hf155 := hf154.mono (frs_st hst152 rfl)
    have hf156 := hf119.mono (frs_st hst126 rfl)
    have hf157 := hf156.mono (frs_st hst152 rfl)
    obtain ⟨⟨r158, r159⟩, hp160, h⟩ := bnd h
    refine WL.call (vals := [.agg [vi r62.Scale, vu r62.Zero, vi r62.Pos.Offset, (.slice p113 m114 c115), vi r62.Neg.Offset, (.slice p120 m121 c122)].toArray]) kok17 rfl rfl (c_hist_Total (A := fun _ => True) (a0 := r62) (Sl.all hf155) (Sl.all hf157) hp160) ?_
    rintro vr163 wd162 ⟨rfl, hm161⟩
    obtain ⟨O164, hold165, hnew166, hst167⟩ := adoptE O149 (fun k => 1) hm161
    refine WL.y (Y.move rfl) rfl ?_
    refine WL.y (Y.extract rfl rfl) rfl ?_
    refine WL.y (Y.extract rfl rfl) rfl ?_
    refine WL.y (Y.assign rfl) rfl ?_
    refine WL.y (Y.assign rfl) rfl ?_
    refine WL.nil ?_
    refine At.then ?_
    refine WC.seq ?_
    refine WC.seq ?_
    refine WC.region ?_
    refine WL.y (Y.move rfl) rfl ?_
    refine WL.y (Y.move rfl) rfl ?_
    refine WL.y (Y.add64 (c := 0) x64_58 (by decide) rfl rfl rfl) rfl ?_
    refine WL.y (Y.move rfl) rfl ?_
    refine WL.y (Y.extract rfl rfl) rfl ?_
    refine WL.y (Y.extract rfl rfl) rfl ?_
    obtain ⟨t168, ht168, h⟩ := lt1 h
    refine WL.yE (Y.assign rfl) (congrArg vu ht168.symm) rfl ?_
    obtain ⟨carry169, hcarry169, h⟩ := lt1 h
    refine WL.yE (Y.assign rfl) (congrArg vu hcarry169.symm) rfl ?_
    refine WL.nil ?_
    refine At.then ?_
    refine WC.seq ?_
    refine WC.region ?_
    refine WL.y (Y.move rfl) rfl ?_
    refine WL.y (Y.neq_u (b := 0) rfl rfl) rfl ?_
    refine WL.nil ?_
    refine At.then ?_
    rcases cnd h with ⟨hc170, h⟩ | ⟨hc170, h⟩
    · refine WC.condT' rfl hc170 ?_
      refine WC.seq ?_
      refine WC.region ?_
      refine WL.y (Y.build (vals := []) (cells := [vi 0, vu 0, vi 0, .slice none 0 0, vi 0, .slice none 0 0]) (Fits.evalp rfl) (by kernel_rfl)) rfl ?_
      have hf171 := hb43.st hst79 rfl
      have hf172 := hf171.st hst88 rfl
      have hf173 := hf172.st hst93 rfl
      have hf174 := hf173.st hst108 rfl
      have hf175 := hf174.st hst126 rfl
      have hf176 := hf175.st hst152 rfl
      have hf177 := hf176.st hst167 rfl
      refine WL.store (v := .agg [vi 0, vu 0, vi 0, .slice none 0 0, vi 0, .slice none 0 0].toArray) (cells' := [vi 0, vu 0, vi 0, .slice none 0 0, vi 0, .slice none 0 0]) ty27 rfl rfl hf177 rfl (Nat.le_of_ble_eq_true rfl) rfl rfl ?_
      intro wd178 hst179 hb180
      refine WL.y (Y.assign rfl) rfl ?_
      refine WL.nil ?_
      refine At.then ?_
      refine WC.ret ?_
      refine At.thenR ?_
      obtain ⟨rfl, rfl⟩ := tup2 h
      have hs181 : Stp [13, 14, 15] (Lg.O0 A) w O164 wd178 := (Stp.trans (Stp.up hst27 rfl) (Stp.trans (Stp.up hst42 rfl) (Stp.trans (Stp.up hst47 rfl) (Stp.trans (Stp.up hst79 rfl) (Stp.trans (Stp.up hst88 rfl) (Stp.trans (Stp.up hst93 rfl) (Stp.trans (Stp.up hst108 rfl) (Stp.trans (Stp.up hst126 rfl) (Stp.trans (Stp.up hst152 rfl) (Stp.trans (Stp.up hst167 rfl) (Stp.up hst179 rfl)))))))))))
      exact At.res (.inl rfl) rfl (.cell rfl (hb180.runAg 0 [vi 0, vu 0, vi 0, .slice none 0 0, vi 0, .slice none 0 0] ty27 rfl rfl rfl) (.tmp rfl .nil)) ⟨.slice none 0 0, .slice none 0 0, rfl, (Stp.ext hs181 rfl rfl), (Or.inl ⟨rfl, rfl⟩), (Or.inl ⟨rfl, rfl⟩)⟩
    · refine WC.condF' rfl hc170 ?_
      refine WC.skip ?_
      refine At.then ?_
      refine WC.seq ?_
      refine WC.region ?_
      refine WL.y (Y.fieldAddr fo27_0 rfl) rfl ?_
      have hf182 := hf138.st hst152 rfl
      have hf183 := hf182.st hst167 rfl
      refine WL.y (Y.loadSc ty3 rfl rfl (hf183.cell 0 _ rfl)) rfl ?_
      refine WL.y (Y.fieldAddr fo27_1 rfl) rfl ?_
      refine WL.y (Y.loadSc ty22 rfl rfl (hf183.cell 1 _ rfl)) rfl ?_
      refine WL.y (Y.fieldAddr fo27_1 rfl) rfl ?_
      have hf184 := hf153.st hst167 rfl
      refine WL.y (Y.loadSc ty22 rfl rfl (hf184.cell 1 _ rfl)) rfl ?_
      refine WL.y (Y.add_u rfl rfl) rfl ?_
      refine WL.y (Y.build (vals := [(0, vi r61.Scale), (1, vu (r61.Zero + r62.Zero))]) (cells := [vi r61.Scale, vu (r61.Zero + r62.Zero), vi 0, .slice none 0 0, vi 0, .slice none 0 0]) (Fits.evalp rfl) (by kernel_rfl)) rfl ?_
      refine WL.alloc (O := O164) 16 [vi 0, vu 0, vi 0, .slice none 0 0, vi 0, .slice none 0 0] ty27 rfl rfl ?_
      intro p186 O187 wd188 hst189 hb185
      refine WL.store (v := .agg [vi r61.Scale, vu (r61.Zero + r62.Zero), vi 0, .slice none 0 0, vi 0, .slice none 0 0].toArray) (cells' := [vi r61.Scale, vu (r61.Zero + r62.Zero), vi 0, .slice none 0 0, vi 0, .slice none 0 0]) ty27 rfl rfl hb185 rfl (Nat.le_of_ble_eq_true rfl) rfl rfl ?_
      intro wd190 hst191 hb192
      refine WL.nil ?_
      refine At.then ?_
      refine WC.seq ?_
      refine WC.seq ?_
      refine WC.region ?_
      refine WL.y (Y.fieldAddr fo27_2 rfl) rfl ?_
      refine WL.y (Y.fieldAddr fo27_2 rfl) rfl ?_
      have hf193 := hf183.st hst189 rfl
      have hf194 := hf193.st hst191 rfl
      refine WL.y (Y.loadAg ty25 rfl rfl (hf194.cells 2 [vi r61.Pos.Offset, (.slice p96 m97 c98)] rfl) rfl) rfl ?_
      refine WL.y (Y.fieldAddr fo27_2 rfl) rfl ?_
      have hf195 := hf184.st hst189 rfl
      have hf196 := hf195.st hst191 rfl
      refine WL.y (Y.loadAg ty25 rfl rfl (hf196.cells 2 [vi r62.Pos.Offset, (.slice p113 m114 c115)] rfl) rfl) rfl ?_
      refine WL.y (Y.build (vals := [(0, .pointer (some ⟨p186, 2, none⟩)), (1, .agg [vi r61.Pos.Offset, (.slice p96 m97 c98)].toArray), (2, .agg [vi r62.Pos.Offset, (.slice p113 m114 c115)].toArray)]) (cells := [.pointer (some ⟨p186, 2, none⟩), vi r61.Pos.Offset, (.slice p96 m97 c98), vi r62.Pos.Offset, (.slice p113 m114 c115)]) (Fits.evalp rfl) (by kernel_rfl)) rfl ?_
      refine WL.y (Y.fieldAddr fo27_3 rfl) rfl ?_
      refine WL.y (Y.fieldAddr fo27_3 rfl) rfl ?_
      refine WL.y (Y.loadAg ty25 rfl rfl (hf194.cells 4 [vi r61.Neg.Offset, (.slice p102 m103 c104)] rfl) rfl) rfl ?_
      refine WL.y (Y.fieldAddr fo27_3 rfl) rfl ?_
      refine WL.y (Y.loadAg ty25 rfl rfl (hf196.cells 4 [vi r62.Neg.Offset, (.slice p120 m121 c122)] rfl) rfl) rfl ?_
      refine WL.y (Y.build (vals := [(0, .pointer (some ⟨p186, 4, none⟩)), (1, .agg [vi r61.Neg.Offset, (.slice p102 m103 c104)].toArray), (2, .agg [vi r62.Neg.Offset, (.slice p120 m121 c122)].toArray)]) (cells := [.pointer (some ⟨p186, 4, none⟩), vi r61.Neg.Offset, (.slice p102 m103 c104), vi r62.Neg.Offset, (.slice p120 m121 c122)]) (Fits.evalp rfl) (by kernel_rfl)) rfl ?_
      refine WL.buildLit (O := O187) (vals := [(0, .agg [.pointer (some ⟨p186, 2, none⟩), vi r61.Pos.Offset, (.slice p96 m97 c98), vi r62.Pos.Offset, (.slice p113 m114 c115)].toArray), (1, .agg [.pointer (some ⟨p186, 4, none⟩), vi r61.Neg.Offset, (.slice p102 m103 c104), vi r62.Neg.Offset, (.slice p120 m121 c122)].toArray)]) 17 [.pointer (some ⟨p186, 2, none⟩), vi r61.Pos.Offset, (.slice p96 m97 c98), vi r62.Pos.Offset, (.slice p113 m114 c115), .pointer (some ⟨p186, 4, none⟩), vi r61.Neg.Offset, (.slice p102 m103 c104), vi r62.Neg.Offset, (.slice p120 m121 c122)] ty100 ty99 (by decide) (by decide) (Fits.evalp rfl) (by kernel_rfl) rfl ?_
      intro p198 O199 wd200 hst201 hb197
      refine WL.yE (Y.lenv ty100 rfl) (show vi ((2 : Nat) : Int) = vi 2 from rfl) rfl ?_
      refine WL.y (Y.move rfl) rfl ?_
      refine WL.nil ?_
      refine At.then ?_
      refine WC.block ?_
      refine WC.unroll 2 ?_
      refine WC.seq ?_
      refine WC.region ?_
      refine WL.yE (Y.lss_i rfl rfl) (congrArg Value.bool (by decide : decide ((0 : Int) < (2 : Int)) = true)) rfl ?_
      refine WL.nil ?_
      refine At.then ?_
      refine WC.seq ?_
      refine WC.condT rfl ?_
      refine WC.skip ?_
      refine At.then ?_
      refine WC.seq ?_
      obtain ⟨p210, h, hk211⟩ := flow1 h
      refine WC.join (σ := (Int × List UInt64 × Own × Value)) (fun x w' => p210 = .go (x.1, x.2.1) ∧ Stp [16, 18, 19, 20, 1001, 1002, 1003, 1005] O199 wd200 x.2.2.1 w' ∧ OwnSl 1008 Rep.u 22 x.2.2.1 w' x.2.2.2 x.2.1 ∧ Blk 16 x.2.2.1 w' p186 27 [vi r61.Scale, vu (r61.Zero + r62.Zero), vi x.1, x.2.2.2, vi 0, .slice none 0 0]) (fun x => [(4, .pointer (some ⟨p44, 0, none⟩)), (15, .pointer (some ⟨p186, 0, none⟩)), (71, .slice (some ⟨p198, 0, none⟩) 2 2), (72, vi 2), (73, vi 0)]) ?_ ?_
      · refine WC.block ?_
        refine WC.seq ?_
        refine WC.region ?_
        refine WL.yE (Y.indexAddr ty100 ty99 rfl rfl rfl (by decide) (by decide)) (show (Value.pointer (some ⟨p198, 0 + (0 : Int).toNat * 5, none⟩)) = .pointer (some ⟨p198, 0, none⟩) from rfl) rfl ?_
        refine WL.y (Y.loadAg ty99 rfl rfl (hb197.cells 0 [.pointer (some ⟨p186, 2, none⟩), vi r61.Pos.Offset, (.slice p96 m97 c98), vi r62.Pos.Offset, (.slice p113 m114 c115)] rfl) rfl) rfl ?_
        refine WL.alloc (O := O199) 18 [.pointer none, vi 0, .slice none 0 0, vi 0, .slice none 0 0] ty99 rfl rfl ?_
        intro p213 O214 wd215 hst216 hb212
        refine WL.store (v := .agg [.pointer (some ⟨p186, 2, none⟩), vi r61.Pos.Offset, (.slice p96 m97 c98), vi r62.Pos.Offset, (.slice p113 m114 c115)].toArray) (cells' := [.pointer (some ⟨p186, 2, none⟩), vi r61.Pos.Offset, (.slice p96 m97 c98), vi r62.Pos.Offset, (.slice p113 m114 c115)]) ty99 rfl rfl hb212 rfl (Nat.le_of_ble_eq_true rfl) rfl rfl ?_
        intro wd217 hst218 hb219
        refine WL.nil ?_
        refine At.then ?_
        refine WC.seq ?_
        refine WC.region ?_
        refine WL.y (Y.fieldAddr fo99_1 rfl) rfl ?_
        refine WL.y (Y.loadAg ty25 rfl rfl (hb219.cells 1 [vi r61.Pos.Offset, (.slice p96 m97 c98)] rfl) rfl) rfl ?_
        refine WL.y (Y.fieldAddr fo99_2 rfl) rfl ?_
        refine WL.y (Y.loadAg ty25 rfl rfl (hb219.cells 3 [vi r62.Pos.Offset, (.slice p113 m114 c115)] rfl) rfl) rfl ?_
        have hf220 := hf140.mono (frs_st hst152 rfl)
        have hf221 := hf220.mono (frs_st hst167 rfl)
        have hf222 := hf221.mono (frs_st hst189 rfl)
        have hf223 := hf222.mono (frs_st hst191 rfl)
        have hf224 := hf223.mono (frs_st hst201 rfl)
        have hf225 := hf224.mono (frs_st hst216 rfl)
        have hf226 := hf225.mono (frs_st hst218 rfl)
        have hf227 := hf155.mono (frs_st hst167 rfl)
        have hf228 := hf227.mono (frs_st hst189 rfl)
        have hf229 := hf228.mono (frs_st hst191 rfl)
        have hf230 := hf229.mono (frs_st hst201 rfl)
        have hf231 := hf230.mono (frs_st hst216 rfl)
        have hf232 := hf231.mono (frs_st hst218 rfl)
        obtain ⟨⟨r233, r234⟩, hp235, h⟩ := bnd h
        refine WL.call (vals := [.agg [vi r61.Pos.Offset, (.slice p96 m97 c98)].toArray, .agg [vi r62.Pos.Offset, (.slice p113 m114 c115)].toArray]) kok71 rfl rfl (c_fold_cover (A := fun _ => True) (a0 := r61.Pos) (a1 := r62.Pos) (Sl.all hf226) (Sl.all hf232) hp235) ?_
        rintro vr238 wd237 ⟨rfl, hm236⟩
        obtain ⟨O239, hold240, hnew241, hst242⟩ := adoptE O214 (fun k => 1) hm236
        refine WL.y (Y.move rfl) rfl ?_
        refine WL.y (Y.extract rfl rfl) rfl ?_
        refine WL.y (Y.extract rfl rfl) rfl ?_
        refine WL.y (Y.assign rfl) rfl ?_
        refine WL.y (Y.assign rfl) rfl ?_
        refine WL.nil ?_
        refine At.then ?_
        refine WC.seq ?_
        refine WC.seq ?_
        refine WC.region ?_
        refine WL.y (Y.move rfl) rfl ?_
        refine WL.y (Y.gtr_i rfl rfl) rfl ?_
        refine WL.nil ?_
        refine At.then ?_
        rcases cnd h with ⟨hc243, h⟩ | ⟨hc243, h⟩
        · refine WC.condT' rfl hc243 ?_
          refine WC.seq ?_
          refine WC.region ?_
          refine WL.y (Y.build (vals := []) (cells := [vi 0, vu 0, vi 0, .slice none 0 0, vi 0, .slice none 0 0]) (Fits.evalp rfl) (by kernel_rfl)) rfl ?_
          have hf244 := hb43.st hst79 rfl
          have hf245 := hf244.st hst88 rfl
          have hf246 := hf245.st hst93 rfl
          have hf247 := hf246.st hst108 rfl
          have hf248 := hf247.st hst126 rfl
          have hf249 := hf248.st hst152 rfl
          have hf250 := hf249.st hst167 rfl
          have hf251 := hf250.st hst189 rfl
          have hf252 := hf251.st hst191 rfl
          have hf253 := hf252.st hst201 rfl
          have hf254 := hf253.st hst216 rfl
          have hf255 := hf254.st hst218 rfl
          have hf256 := hf255.st hst242 rfl
          refine WL.store (v := .agg [vi 0, vu 0, vi 0, .slice none 0 0, vi 0, .slice none 0 0].toArray) (cells' := [vi 0, vu 0, vi 0, .slice none 0 0, vi 0, .slice none 0 0]) ty27 rfl rfl hf256 rfl (Nat.le_of_ble_eq_true rfl) rfl rfl ?_
          intro wd257 hst258 hb259
          refine WL.y (Y.assign rfl) rfl ?_
          refine WL.nil ?_
          refine At.then ?_
          refine WC.ret ?_
          refine At.thenR ?_
          refine At.inBlockR ?_
          have h := outs1 h hk211
          refine At.joinR ?_
          refine At.thenR ?_
          refine At.thenR ?_
          refine At.inBlockR ?_
          refine At.thenR ?_
          obtain ⟨rfl, rfl⟩ := tup2 h
          have hs260 : Stp [13, 14, 15, 16, 18] (Lg.O0 A) w O239 wd257 := (Stp.trans (Stp.up hst27 rfl) (Stp.trans (Stp.up hst42 rfl) (Stp.trans (Stp.up hst47 rfl) (Stp.trans (Stp.up hst79 rfl) (Stp.trans (Stp.up hst88 rfl) (Stp.trans (Stp.up hst93 rfl) (Stp.trans (Stp.up hst108 rfl) (Stp.trans (Stp.up hst126 rfl) (Stp.trans (Stp.up hst152 rfl) (Stp.trans (Stp.up hst167 rfl) (Stp.trans (Stp.up hst189 rfl) (Stp.trans (Stp.up hst191 rfl) (Stp.trans (Stp.up hst201 rfl) (Stp.trans (Stp.up hst216 rfl) (Stp.trans (Stp.up hst218 rfl) (Stp.trans (Stp.up hst242 rfl) (Stp.up hst258 rfl)))))))))))))))))
          exact At.res (.inl rfl) rfl (.cell rfl (hb259.runAg 0 [vi 0, vu 0, vi 0, .slice none 0 0, vi 0, .slice none 0 0] ty27 rfl rfl rfl) (.tmp rfl .nil)) ⟨.slice none 0 0, .slice none 0 0, rfl, (Stp.ext hs260 rfl rfl), (Or.inl ⟨rfl, rfl⟩), (Or.inl ⟨rfl, rfl⟩)⟩
        · refine WC.condF' rfl hc243 ?_
          refine WC.skip ?_
          refine At.then ?_
          refine WC.seq ?_
          refine WC.seq ?_
          refine WC.region ?_
          refine WL.y (Y.move rfl) rfl ?_
          refine WL.y (Y.eql_i rfl rfl) rfl ?_
          refine WL.nil ?_
          refine At.then ?_
          rcases cnd h with ⟨hc261, h⟩ | ⟨hc261, h⟩
          · refine WC.condT' rfl hc261 ?_
            refine WC.exit ?_
            refine At.thenX ?_
            refine At.inBlockHit ?_
            have hf262 := hb192.st hst201 rfl
            have hf263 := hf262.st hst216 rfl
            have hf264 := hf263.st hst218 rfl
            have hf265 := hf264.st hst242 rfl
            exact At.join (σ := (Int × List UInt64 × Own × Value)) (0, [], O239, .slice none 0 0) ⟨go2 h, (Stp.trans (Stp.up hst216 rfl) (Stp.trans (Stp.up hst218 rfl) (Stp.up hst242 rfl))), (OwnSl.nil 1008 Rep.u 22), hf265⟩ (.cons rfl (.cons rfl (.cons rfl (.cons rfl (.cons rfl .nil)))))
          · refine WC.condF' rfl hc261 ?_
            refine WC.skip ?_
            refine At.then ?_
            refine WC.seq ?_
            refine WC.drawH [16, 19, 20] [0, 1, 2, 3, 4, 5, 6, 7, 8, 9, 10, 11] O239 13 fmix rfl (by kernel_rfl) ?_
            intro wd266 hst267
            refine WD.y 0 rfl (by kernel_rfl) (fun _ _ _ => Y.fieldAddr fo99_0 rfl) rfl ?_
            refine WD.y 1 rfl (by kernel_rfl) (fun wd272 O271 hst273 => have hf274 := hb219.st hst242 rfl; have hf275 := hf274.st hst267 rfl; have hf276 := hf275.st hst273 rfl; Y.loadSc ty98 rfl rfl (hf276.cell 0 _ rfl)) rfl ?_
            refine WD.y 2 rfl (by kernel_rfl) (fun _ _ _ => Y.fieldAddr fo99_0 rfl) rfl ?_
            refine WD.y 3 rfl (by kernel_rfl) (fun wd281 O280 hst282 => have hf283 := hb219.st hst242 rfl; have hf284 := hf283.st hst267 rfl; have hf285 := hf284.st hst282 rfl; Y.loadSc ty98 rfl rfl (hf285.cell 0 _ rfl)) rfl ?_
            refine WD.y 4 rfl (by kernel_rfl) (fun _ _ _ => Y.move rfl) rfl ?_
            refine WD.y 5 rfl (by kernel_rfl) (fun _ _ _ => Y.move rfl) rfl ?_
            refine WD.y 7 rfl (by kernel_rfl) (fun _ _ _ => Y.nilCheck rfl) rfl ?_
            refine WD.y 8 rfl (by kernel_rfl) (fun _ _ _ => Y.fieldAddr fo25_0 rfl) rfl ?_
            obtain ⟨p305, h, hk306⟩ := bnd h
            refine WD.join (σ := (List UInt64 × Own × Value)) (f' := 1) [11, 10, 9, 8, 7, 6, 5, 4, 3, 2, 1, 0] (fun x O' w' => x.1 = p305 ∧ Stp [16, 19, 20] O239 wd266 x.2.1 w' ∧ Blk 16 x.2.1 w' p186 27 [vi r61.Scale, vu (r61.Zero + r62.Zero), vi r233, .slice none 0 0, vi 0, .slice none 0 0] ∧ OwnSl 1001 Rep.u 22 x.2.1 w' x.2.2 x.1 ∧ x.2.1 = O') (fun x => [(4, .pointer (some ⟨p44, 0, none⟩)), (15, .pointer (some ⟨p186, 0, none⟩)), (17, .pointer (some ⟨p213, 0, none⟩)), (18, vi r233), (71, .slice (some ⟨p198, 0, none⟩) 2 2), (72, vi 2), (73, vi 0), (96, x.2.2), (100, .pointer (some ⟨p186, 3, none⟩))]) (fun hJ307 => ?_) ?_
            · refine WD.heavy2 6 9 rfl rfl (by kernel_rfl) ?_ ?_
              · obtain ⟨t308, ht308, h⟩ := bnd h
                refine WL.make (O := O239) (R := Rep.u) (zx := (0 : UInt64)) 19 (by decide) ty23 ty22 rfl (by decide) (by decide) rfl rfl (fun _ _ => rfl) ht308 rfl ?_
                intro v309 O311 wd312 hst313 ho310
                refine WL.nil ?_
                refine At.dq (Stp.up hst313 rfl) ?_
                refine WD.heavy 9 rfl (by kernel_rfl) ?_
                have hf314 := hb192.st hst201 rfl
                have hf315 := hf314.st hst216 rfl
                have hf316 := hf315.st hst218 rfl
                have hf317 := hf316.st hst242 rfl
                have hf318 := hf317.st hst267 rfl
                have hf319 := hf318.st hst313 rfl
                refine WL.store (v := vi r233) (cells' := [vi r61.Scale, vu (r61.Zero + r62.Zero), vi r233, .slice none 0 0, vi 0, .slice none 0 0]) ty3 rfl rfl hf319 rfl (Nat.le_of_ble_eq_true rfl) rfl rfl ?_
                intro wd320 hst321 hb322
                refine WL.nil ?_
                refine At.dq (Stp.up hst321 rfl) ?_
                refine WD.y 10 rfl (by kernel_rfl) (fun _ _ _ => Y.nilCheck rfl) rfl ?_
                refine WD.y 11 rfl (by kernel_rfl) (fun _ _ _ => Y.fieldAddr fo25_1 rfl) rfl ?_
                have hf329 := ho310.st hst321 rfl rfl rfl
                obtain ⟨O330, hst331, ho332⟩ := OwnSl.rlb 1001 rfl hf329
                have hf333 := hb322.st hst331 rfl
                refine WD.own (Stp.up hst331 rfl) ?_
                refine WD.perm _ [11, 10, 9, 8, 7, 6, 5, 4, 3, 2, 1, 0] (by kernel_rfl) ?_
                exact hJ307 (t308, O330, v309) _ _ _ ⟨some1 h, (Stp.trans (Stp.up hst313 rfl) (Stp.trans (Stp.up hst321 rfl) (Stp.up hst331 rfl))), hf333, ho332, rfl⟩ (.cons rfl (.cons rfl (.cons rfl (.cons rfl (.cons rfl (.cons rfl (.cons rfl (.cons rfl (.cons rfl .nil)))))))))
              · try simp only [Option.bind_assoc] at h
                try simp only [Option.bind_some] at h
                have hf334 := hb192.st hst201 rfl
                have hf335 := hf334.st hst216 rfl
                have hf336 := hf335.st hst218 rfl
                have hf337 := hf336.st hst242 rfl
                have hf338 := hf337.st hst267 rfl
                refine WL.store (v := vi r233) (cells' := [vi r61.Scale, vu (r61.Zero + r62.Zero), vi r233, .slice none 0 0, vi 0, .slice none 0 0]) ty3 rfl rfl hf338 rfl (Nat.le_of_ble_eq_true rfl) rfl rfl ?_
                intro wd339 hst340 hb341
                refine WL.nil ?_
                refine At.dq (Stp.up hst340 rfl) ?_
                refine WD.heavy 6 rfl (by kernel_rfl) ?_
                obtain ⟨t342, ht342, h⟩ := bnd h
                refine WL.make (O := O239) (R := Rep.u) (zx := (0 : UInt64)) 20 (by decide) ty23 ty22 rfl (by decide) (by decide) rfl rfl (fun _ _ => rfl) ht342 rfl ?_
                intro v343 O345 wd346 hst347 ho344
                refine WL.nil ?_
                refine At.dq (Stp.up hst347 rfl) ?_
                refine WD.y 10 rfl (by kernel_rfl) (fun _ _ _ => Y.nilCheck rfl) rfl ?_
                refine WD.y 11 rfl (by kernel_rfl) (fun _ _ _ => Y.fieldAddr fo25_1 rfl) rfl ?_
                obtain ⟨O354, hst355, ho356⟩ := OwnSl.rlb 1001 rfl ho344
                have hf357 := hb341.st hst347 rfl
                have hf358 := hf357.st hst355 rfl
                refine WD.own (Stp.up hst355 rfl) ?_
                refine WD.perm _ [11, 10, 9, 8, 7, 6, 5, 4, 3, 2, 1, 0] (by kernel_rfl) ?_
                exact hJ307 (t342, O354, v343) _ _ _ ⟨some1 h, (Stp.trans (Stp.up hst340 rfl) (Stp.trans (Stp.up hst347 rfl) (Stp.up hst355 rfl))), hf358, ho356, rfl⟩ (.cons rfl (.cons rfl (.cons rfl (.cons rfl (.cons rfl (.cons rfl (.cons rfl (.cons rfl (.cons rfl .nil)))))))))
            · rintro ⟨x299, O302, v300⟩ _ wd303 ⟨rfl, hst304, hb298, hf301, rfl⟩
              replace h := hk306
              try dsimp only at h hst304 hb298 hf301
              refine (show WD _ _ _ _ _ _ _ _ [(4, .pointer (some ⟨p44, 0, none⟩)), (15, .pointer (some ⟨p186, 0, none⟩)), (17, .pointer (some ⟨p213, 0, none⟩)), (18, vi r233), (71, .slice (some ⟨p198, 0, none⟩) 2 2), (72, vi 2), (73, vi 0), (96, v300), (100, .pointer (some ⟨p186, 3, none⟩))] _ _ from ?_)
              refine WD.phase [16] [0, 1, 2, 3, 4, 5, 6, 7, 8, 9, 10, 11, 12] (by kernel_rfl) (by kernel_rfl) ?_
              refine WD.heavy 12 rfl (by kernel_rfl) ?_
              have hh362 := h
              obtain ⟨p359, m360, c361, rfl⟩ := hf301.shape
              have h := hh362
              refine WL.store (v := (.slice p359 m360 c361)) (cells' := [vi r61.Scale, vu (r61.Zero + r62.Zero), vi r233, (.slice p359 m360 c361), vi 0, .slice none 0 0]) ty23 rfl rfl hb298 rfl (Nat.le_of_ble_eq_true rfl) rfl rfl ?_
              intro wd363 hst364 hb365
              refine WL.nil ?_
              refine At.dq (Stp.up hst364 rfl) ?_
              refine WD.done_ (by kernel_rfl) ?_
              refine At.then ?_
              refine WC.seq ?_
              refine WC.region ?_
              refine WL.y (Y.fieldAddr fo99_0 rfl) rfl ?_
              have hf366 := hb219.st hst242 rfl
              have hf367 := hf366.st hst267 rfl
              have hf368 := hf367.st hst304 rfl
              have hf369 := hf368.st hst364 rfl
              refine WL.y (Y.loadSc ty98 rfl rfl (hf369.cell 0 _ rfl)) rfl ?_
              refine WL.y (Y.nilCheck rfl) rfl ?_
              refine WL.y (Y.fieldAddr fo25_1 rfl) rfl ?_
              refine WL.y (Y.loadSc ty23 rfl rfl (hb365.cell 3 _ rfl)) rfl ?_
              have hf370 := hf301.st hst364 rfl rfl rfl
              refine WL.y (Y.len ty23 rfl hf370.src.sl) rfl ?_
              refine WL.y (Y.move rfl) rfl ?_
              refine WL.nil ?_
              refine At.then ?_
              obtain ⟨p377, h, hk378⟩ := bnd h
              refine WC.join (σ := (List UInt64 × Own)) (fun x w' => x.1 = p377 ∧ Stp [1001, 1002, 1003] O302 wd363 x.2 w' ∧ OwnSl 1005 Rep.u 22 x.2 w' (.slice p359 m360 c361) x.1) (fun x => [(4, .pointer (some ⟨p44, 0, none⟩)), (15, .pointer (some ⟨p186, 0, none⟩)), (71, .slice (some ⟨p198, 0, none⟩) 2 2), (72, vi 2), (73, vi 0)]) ?_ ?_
              · refine WC.block ?_
                obtain ⟨p392, h, hk394⟩ := flow1 h
                obtain ⟨k393, h⟩ := loop_some h
                refine WC.joinB 2 (σ := (List UInt64 × Own)) (fun x w' => p392 = .go x.1 ∧ Stp [1001, 1002] O302 wd363 x.2 w' ∧ OwnSl 1003 Rep.u 22 x.2 w' (.slice p359 m360 c361) x.1) (fun x => [(4, .pointer (some ⟨p44, 0, none⟩)), (15, .pointer (some ⟨p186, 0, none⟩)), (71, .slice (some ⟨p198, 0, none⟩) 2 2), (72, vi 2), (73, vi 0)]) ?_ ?_
                · obtain ⟨O395, hst396, ho397⟩ := OwnSl.rlb 1002 rfl hf370
                  refine WC.loop (σ := (List UInt64 × Int × Own)) (fun x k w' => loopN k (fold_Merge_lp1 r61 r62 r233 x299) (x.1, x.2.1) = some p392 ∧ Stp [1001, 1002] O302 wd363 x.2.2 w' ∧ OwnSl 1002 Rep.u 22 x.2.2 w' (.slice p359 m360 c361) x.1) (fun x => [(4, .pointer (some ⟨p44, 0, none⟩)), (15, .pointer (some ⟨p186, 0, none⟩)), (17, .pointer (some ⟨p213, 0, none⟩)), (18, vi r233), (71, .slice (some ⟨p198, 0, none⟩) 2 2), (72, vi 2), (73, vi 0), (106, vi (x299.length : Int)), (107, vi x.2.1)]) (x299, 0, O395) k393 (.cons rfl (.cons rfl (.cons rfl (.cons rfl (.cons rfl (.cons rfl (.cons rfl (.cons rfl (.cons rfl .nil))))))))) ⟨h, (Stp.up hst396 rfl), ho397⟩ ?_
                  rintro ⟨c379, x382, O383⟩ k393 wd384 ⟨h, hst385, hf381⟩
                  obtain ⟨j398, q399, rfl, h, hn400⟩ := rnd1 h
                  unfold fold_Merge_lp1 at h
                  try dsimp only at h hst385 hf381
                  refine (show WC _ _ _ _ [(4, .pointer (some ⟨p44, 0, none⟩)), (15, .pointer (some ⟨p186, 0, none⟩)), (17, .pointer (some ⟨p213, 0, none⟩)), (18, vi r233), (71, .slice (some ⟨p198, 0, none⟩) 2 2), (72, vi 2), (73, vi 0), (106, vi (x299.length : Int)), (107, vi x382)] _ from ?_)
                  refine WC.seq ?_
                  refine WC.region ?_
                  refine WL.y (Y.lss_i rfl rfl) rfl ?_
                  refine WL.nil ?_
                  refine At.then ?_
                  refine WC.seq ?_
                  rcases cnd h with ⟨hc401, h⟩ | ⟨hc401, h⟩
                  · refine WC.condT' rfl hc401 ?_
                    refine WC.skip ?_
                    refine At.then ?_
                    refine WC.seq ?_
                    refine WC.block ?_
                    refine WC.seq ?_
                    refine WC.region ?_
                    refine WL.y (Y.move rfl) rfl ?_
                    refine WL.y (Y.assign rfl) rfl ?_
                    refine WL.nil ?_
                    refine At.then ?_
                    refine WC.drawH [] [0, 1, 2, 3, 4, 5, 6, 7, 8, 9, 10, 11, 12, 13, 14, 15, 16, 17, 18, 19] O383 21 fmix rfl (by kernel_rfl) ?_
                    intro wd402 hst403
                    refine WD.y 0 rfl (by kernel_rfl) (fun _ _ _ => Y.fieldAddr fo99_0 rfl) rfl ?_
                    refine WD.y 1 rfl (by kernel_rfl) (fun wd408 O407 hst409 => have hf410 := hf369.st hst385 rfl; have hf411 := hf410.st hst403 rfl; have hf412 := hf411.st hst409 rfl; Y.loadSc ty98 rfl rfl (hf412.cell 0 _ rfl)) rfl ?_
                    refine WD.y 2 rfl (by kernel_rfl) (fun _ _ _ => Y.nilCheck rfl) rfl ?_
                    refine WD.y 3 rfl (by kernel_rfl) (fun _ _ _ => Y.fieldAddr fo25_1 rfl) rfl ?_
                    refine WD.y 4 rfl (by kernel_rfl) (fun wd420 O419 hst421 => have hf422 := hb365.st hst385 rfl; have hf423 := hf422.st hst403 rfl; have hf424 := hf423.st hst421 rfl; Y.loadSc ty23 rfl rfl (hf424.cell 3 _ rfl)) rfl ?_
                    refine WD.y 5 rfl (by kernel_rfl) (fun _ _ _ => Y.move rfl) rfl ?_
                    refine WD.y 6 rfl (by kernel_rfl) (fun _ _ _ => Y.fieldAddr fo99_1 rfl) rfl ?_
                    refine WD.y 7 rfl (by kernel_rfl) (fun wd432 O431 hst433 => have hf434 := hf369.st hst385 rfl; have hf435 := hf434.st hst403 rfl; have hf436 := hf435.st hst433 rfl; Y.loadAg ty25 rfl rfl (hf436.cells 1 [vi r61.Pos.Offset, (.slice p96 m97 c98)] rfl) rfl) rfl ?_
                    refine WD.y 8 rfl (by kernel_rfl) (fun _ _ _ => Y.move rfl) rfl ?_
                    refine WD.y 9 rfl (by kernel_rfl) (fun _ _ _ => Y.move rfl) rfl ?_
                    refine WD.y 10 rfl (by kernel_rfl) (fun _ _ _ => Y.add_i rfl rfl) rfl ?_
                    refine WD.y 12 rfl (by kernel_rfl) (fun _ _ _ => Y.fieldAddr fo99_2 rfl) rfl ?_
                    refine WD.y 13 rfl (by kernel_rfl) (fun wd450 O449 hst451 => have hf452 := hf369.st hst385 rfl; have hf453 := hf452.st hst403 rfl; have hf454 := hf453.st hst451 rfl; Y.loadAg ty25 rfl rfl (hf454.cells 3 [vi r62.Pos.Offset, (.slice p113 m114 c115)] rfl) rfl) rfl ?_
                    refine WD.y 14 rfl (by kernel_rfl) (fun _ _ _ => Y.move rfl) rfl ?_
                    refine WD.y 15 rfl (by kernel_rfl) (fun _ _ _ => Y.move rfl) rfl ?_
                    refine WD.y 16 rfl (by kernel_rfl) (fun _ _ _ => Y.add_i rfl rfl) rfl ?_
                    refine WD.heavy 11 rfl (by kernel_rfl) ?_
                    have hf464 := hf226.mono (frs_st hst242 rfl)
                    have hf465 := hf464.mono (frs_st hst267 rfl)
                    have hf466 := hf465.mono (frs_st hst304 rfl)
                    have hf467 := hf466.mono (frs_st hst364 rfl)
                    have hf468 := hf467.mono (frs_st hst385 rfl)
                    have hf469 := hf468.mono (frs_st hst403 rfl)
                    obtain ⟨r470, hp471, h⟩ := bnd h
                    refine WL.call (vals := [.agg [vi r61.Pos.Offset, (.slice p96 m97 c98)].toArray, vi (w64 (r233 + x382))]) kok23 rfl rfl (c_hist_At (A := fun _ => True) (a0 := r61.Pos) (Sl.all hf469) hp471) ?_
                    rintro vr474 wd473 ⟨rfl, hm472⟩
                    obtain ⟨O475, hold476, hnew477, hst478⟩ := adoptE O383 (fun k => 1) hm472
                    refine WL.nil ?_
                    refine At.dq (Stp.up hst478 rfl) ?_
                    refine WD.heavy 17 rfl (by kernel_rfl) ?_
                    have hf479 := hf232.mono (frs_st hst242 rfl)
                    have hf480 := hf479.mono (frs_st hst267 rfl)
                    have hf481 := hf480.mono (frs_st hst304 rfl)
                    have hf482 := hf481.mono (frs_st hst364 rfl)
                    have hf483 := hf482.mono (frs_st hst385 rfl)
                    have hf484 := hf483.mono (frs_st hst403 rfl)
                    have hf485 := hf484.mono (frs_st hst478 rfl)
                    obtain ⟨r486, hp487, h⟩ := bnd h
                    refine WL.call (vals := [.agg [vi r62.Pos.Offset, (.slice p113 m114 c115)].toArray, vi (w64 (r233 + x382))]) kok23 rfl rfl (c_hist_At (A := fun _ => True) (a0 := r62.Pos) (Sl.all hf485) hp487) ?_
                    rintro vr490 wd489 ⟨rfl, hm488⟩
                    obtain ⟨O491, hold492, hnew493, hst494⟩ := adoptE O475 (fun k => 1) hm488
                    refine WL.nil ?_
                    refine At.dq (Stp.up hst494 rfl) ?_
                    refine WD.y 18 rfl (by kernel_rfl) (fun _ _ _ => Y.add_u rfl rfl) rfl ?_
                    obtain ⟨e498, he498, h⟩ := bnd h
                    have hf507 := hf381.st hst403 rfl rfl rfl
                    have hf508 := hf507.st hst478 rfl rfl rfl
                    have hf509 := hf508.st hst494 rfl rfl rfl
                    obtain ⟨b499, cap506, cs505, hv500, hi501, hl502, hc503, hok504⟩ := OwnSl.at hf509 he498
                    obtain rfl := hok504
                    replace hc503 : CellsAt _ _ _ [vu e498] := hc503
                    have hca510 := CAt.own hf509 hv500 hc503
                    refine WD.y 19 rfl (by kernel_rfl) (fun _ _ _ => Y.indexAddr ty23 ty22 rfl hv500 rfl hi501 hl502) rfl ?_
                    refine WD.phase [1002] [0, 1, 2, 3, 4, 5, 6, 7, 8, 9, 10, 11, 12, 13, 14, 15, 16, 17, 18, 19, 20] (by kernel_rfl) (by kernel_rfl) ?_
                    refine WD.heavy 20 rfl (by kernel_rfl) ?_
                    obtain ⟨t514, ht514, h⟩ := lt1 h
                    refine WL.ren 128 rfl (congrArg vu ht514.symm) ?_
                    obtain ⟨xs515, hxs515, h⟩ := bnd h
                    refine WL.storeOwn (by decide) ty22 rfl rfl rfl hf509 hv500 hxs515 ?_
                    intro wd516 hst517 ho518
                    refine WL.nil ?_
                    refine At.dq (Stp.up hst517 rfl) ?_
                    refine WD.done_ (by kernel_rfl) ?_
                    refine At.inBlock ?_
                    refine At.then ?_
                    refine WC.region ?_
                    refine WL.y (Y.add_i rfl rfl) rfl ?_
                    refine WL.y (Y.move rfl) rfl ?_
                    refine WL.nil ?_
                    exact At.round (xs515, w64 (x382 + 1), O491) j398 (Nat.lt_succ_self _) ⟨next1 h hn400, (Stp.trans (Stp.up hst385 rfl) (Stp.trans (Stp.up hst403 rfl) (Stp.trans (Stp.up hst478 rfl) (Stp.trans (Stp.up hst494 rfl) (Stp.up hst517 rfl))))), ho518⟩ (.cons rfl (.cons rfl (.cons rfl (.cons rfl (.cons rfl (.cons rfl (.cons rfl (.cons rfl (.cons rfl .nil)))))))))
                  · refine WC.condF' rfl hc401 ?_
                    refine WC.exit ?_
                    refine At.thenX ?_
                    refine At.loopX ?_
                    obtain ⟨O519, hst520, ho521⟩ := OwnSl.rlb 1003 rfl hf381
                    exact At.hitB (σ := (List UInt64 × Own)) (c379, O519) ⟨brk1 h hn400, (Stp.trans (Stp.up hst385 rfl) (Stp.up hst520 rfl)), ho521⟩ (.cons rfl (.cons rfl (.cons rfl (.cons rfl (.cons rfl .nil)))))
                · rintro ⟨c386, O389⟩ wd390 ⟨rfl, hst391, hf388⟩
                  replace h := flowK_go hk394
                  try dsimp only at h hst391 hf388
                  refine (show At _ _ _ [(4, .pointer (some ⟨p44, 0, none⟩)), (15, .pointer (some ⟨p186, 0, none⟩)), (71, .slice (some ⟨p198, 0, none⟩) 2 2), (72, vi 2), (73, vi 0)] _ from ?_)
                  refine At.inBlockHit ?_
                  obtain ⟨O522, hst523, ho524⟩ := OwnSl.rlb 1005 rfl hf388
                  exact At.join (σ := (List UInt64 × Own)) (c386, O522) ⟨some1 h, (Stp.trans (Stp.up hst391 rfl) (Stp.up hst523 rfl)), ho524⟩ (.cons rfl (.cons rfl (.cons rfl (.cons rfl (.cons rfl .nil)))))
              · rintro ⟨c371, O374⟩ wd375 ⟨rfl, hst376, hf373⟩
                replace h := hk378
                try dsimp only at h hst376 hf373
                refine (show At _ _ _ [(4, .pointer (some ⟨p44, 0, none⟩)), (15, .pointer (some ⟨p186, 0, none⟩)), (71, .slice (some ⟨p198, 0, none⟩) 2 2), (72, vi 2), (73, vi 0)] _ from ?_)
                refine At.inBlock ?_
                obtain ⟨O525, hst526, ho527⟩ := OwnSl.rlb 1008 rfl hf373
                have hf528 := hb365.st hst376 rfl
                have hf529 := hf528.st hst526 rfl
                exact At.join (σ := (Int × List UInt64 × Own × Value)) (r233, c371, O525, (.slice p359 m360 c361)) ⟨go2 h, (Stp.trans (Stp.up hst216 rfl) (Stp.trans (Stp.up hst218 rfl) (Stp.trans (Stp.up hst242 rfl) (Stp.trans (Stp.up hst267 rfl) (Stp.trans (Stp.up hst304 rfl) (Stp.trans (Stp.up hst364 rfl) (Stp.trans (Stp.up hst376 rfl) (Stp.up hst526 rfl)))))))), ho527, hf529⟩ (.cons rfl (.cons rfl (.cons rfl (.cons rfl (.cons rfl .nil)))))
      · rintro ⟨c203, c204, O207, v205⟩ wd208 ⟨rfl, hst209, hf206, hb202⟩
        replace h := flowK_go hk211
        try dsimp only at h hst209 hf206 hb202
        refine (show At _ _ _ [(4, .pointer (some ⟨p44, 0, none⟩)), (15, .pointer (some ⟨p186, 0, none⟩)), (71, .slice (some ⟨p198, 0, none⟩) 2 2), (72, vi 2), (73, vi 0)] _ from ?_)
        refine At.then ?_
        refine WC.region ?_
        refine WL.yE (Y.add_i rfl rfl) (congrArg vi (by decide : w64 (0 + 1) = 1)) rfl ?_
        refine WL.y (Y.move rfl) rfl ?_
        refine WL.nil ?_
        refine At.again ?_
        refine WC.seq ?_
        refine WC.region ?_
        refine WL.yE (Y.lss_i rfl rfl) (congrArg Value.bool (by decide : decide ((1 : Int) < (2 : Int)) = true)) rfl ?_
        refine WL.nil ?_
        refine At.then ?_
        refine WC.seq ?_
        refine WC.condT rfl ?_
        refine WC.skip ?_
        refine At.then ?_
        refine WC.seq ?_
        obtain ⟨p538, h, hk539⟩ := flow1 h
        refine WC.join (σ := (Int × List UInt64 × Own × Value)) (fun x w' => p538 = .go (x.1, x.2.1) ∧ Stp [16, 21, 22, 23, 1010, 1011, 1012, 1014] O207 wd208 x.2.2.1 w' ∧ OwnSl 1017 Rep.u 22 x.2.2.1 w' x.2.2.2 x.2.1 ∧ Blk 16 x.2.2.1 w' p186 27 [vi r61.Scale, vu (r61.Zero + r62.Zero), vi c203, v205, vi x.1, x.2.2.2]) (fun x => [(4, .pointer (some ⟨p44, 0, none⟩)), (15, .pointer (some ⟨p186, 0, none⟩)), (71, .slice (some ⟨p198, 0, none⟩) 2 2), (72, vi 2), (73, vi 1)]) ?_ ?_
        · refine WC.block ?_
          refine WC.seq ?_
          refine WC.region ?_
          refine WL.yE (Y.indexAddr ty100 ty99 rfl rfl rfl (by decide) (by decide)) (show (Value.pointer (some ⟨p198, 0 + (1 : Int).toNat * 5, none⟩)) = .pointer (some ⟨p198, 5, none⟩) from rfl) rfl ?_
          have hf540 := hb197.st hst209 rfl
          refine WL.y (Y.loadAg ty99 rfl rfl (hf540.cells 5 [.pointer (some ⟨p186, 4, none⟩), vi r61.Neg.Offset, (.slice p102 m103 c104), vi r62.Neg.Offset, (.slice p120 m121 c122)] rfl) rfl) rfl ?_
          refine WL.alloc (O := O207) 21 [.pointer none, vi 0, .slice none 0 0, vi 0, .slice none 0 0] ty99 rfl rfl ?_
          intro p542 O543 wd544 hst545 hb541
          refine WL.store (v := .agg [.pointer (some ⟨p186, 4, none⟩), vi r61.Neg.Offset, (.slice p102 m103 c104), vi r62.Neg.Offset, (.slice p120 m121 c122)].toArray) (cells' := [.pointer (some ⟨p186, 4, none⟩), vi r61.Neg.Offset, (.slice p102 m103 c104), vi r62.Neg.Offset, (.slice p120 m121 c122)]) ty99 rfl rfl hb541 rfl (Nat.le_of_ble_eq_true rfl) rfl rfl ?_
          intro wd546 hst547 hb548
          refine WL.nil ?_
          refine At.then ?_
          refine WC.seq ?_
          refine WC.region ?_
          refine WL.y (Y.fieldAddr fo99_1 rfl) rfl ?_
          refine WL.y (Y.loadAg ty25 rfl rfl (hb548.cells 1 [vi r61.Neg.Offset, (.slice p102 m103 c104)] rfl) rfl) rfl ?_
          refine WL.y (Y.fieldAddr fo99_2 rfl) rfl ?_
          refine WL.y (Y.loadAg ty25 rfl rfl (hb548.cells 3 [vi r62.Neg.Offset, (.slice p120 m121 c122)] rfl) rfl) rfl ?_
          have hf549 := hf142.mono (frs_st hst152 rfl)
          have hf550 := hf549.mono (frs_st hst167 rfl)
          have hf551 := hf550.mono (frs_st hst189 rfl)
          have hf552 := hf551.mono (frs_st hst191 rfl)
          have hf553 := hf552.mono (frs_st hst201 rfl)
          have hf554 := hf553.mono (frs_st hst209 rfl)
          have hf555 := hf554.mono (frs_st hst545 rfl)
          have hf556 := hf555.mono (frs_st hst547 rfl)
          have hf557 := hf157.mono (frs_st hst167 rfl)
          have hf558 := hf557.mono (frs_st hst189 rfl)
          have hf559 := hf558.mono (frs_st hst191 rfl)
          have hf560 := hf559.mono (frs_st hst201 rfl)
          have hf561 := hf560.mono (frs_st hst209 rfl)
          have hf562 := hf561.mono (frs_st hst545 rfl)
          have hf563 := hf562.mono (frs_st hst547 rfl)
          obtain ⟨⟨r564, r565⟩, hp566, h⟩ := bnd h
          refine WL.call (vals := [.agg [vi r61.Neg.Offset, (.slice p102 m103 c104)].toArray, .agg [vi r62.Neg.Offset, (.slice p120 m121 c122)].toArray]) kok71 rfl rfl (c_fold_cover (A := fun _ => True) (a0 := r61.Neg) (a1 := r62.Neg) (Sl.all hf556) (Sl.all hf563) hp566) ?_
          rintro vr569 wd568 ⟨rfl, hm567⟩
          obtain ⟨O570, hold571, hnew572, hst573⟩ := adoptE O543 (fun k => 1) hm567
          refine WL.y (Y.move rfl) rfl ?_
          refine WL.y (Y.extract rfl rfl) rfl ?_
          refine WL.y (Y.extract rfl rfl) rfl ?_
          refine WL.y (Y.assign rfl) rfl ?_
          refine WL.y (Y.assign rfl) rfl ?_
          refine WL.nil ?_
          refine At.then ?_
          refine WC.seq ?_
          refine WC.seq ?_
          refine WC.region ?_
          refine WL.y (Y.move rfl) rfl ?_
          refine WL.y (Y.gtr_i rfl rfl) rfl ?_
          refine WL.nil ?_
          refine At.then ?_
          rcases cnd h with ⟨hc574, h⟩ | ⟨hc574, h⟩
          · refine WC.condT' rfl hc574 ?_
            refine WC.seq ?_
            refine WC.region ?_
            refine WL.y (Y.build (vals := []) (cells := [vi 0, vu 0, vi 0, .slice none 0 0, vi 0, .slice none 0 0]) (Fits.evalp rfl) (by kernel_rfl)) rfl ?_
            have hf575 := hb43.st hst79 rfl
            have hf576 := hf575.st hst88 rfl
            have hf577 := hf576.st hst93 rfl
            have hf578 := hf577.st hst108 rfl
            have hf579 := hf578.st hst126 rfl
            have hf580 := hf579.st hst152 rfl
            have hf581 := hf580.st hst167 rfl
            have hf582 := hf581.st hst189 rfl
            have hf583 := hf582.st hst191 rfl
            have hf584 := hf583.st hst201 rfl
            have hf585 := hf584.st hst209 rfl
            have hf586 := hf585.st hst545 rfl
            have hf587 := hf586.st hst547 rfl
            have hf588 := hf587.st hst573 rfl
            refine WL.store (v := .agg [vi 0, vu 0, vi 0, .slice none 0 0, vi 0, .slice none 0 0].toArray) (cells' := [vi 0, vu 0, vi 0, .slice none 0 0, vi 0, .slice none 0 0]) ty27 rfl rfl hf588 rfl (Nat.le_of_ble_eq_true rfl) rfl rfl ?_
            intro wd589 hst590 hb591
            refine WL.y (Y.assign rfl) rfl ?_
            refine WL.nil ?_
            refine At.then ?_
            refine WC.ret ?_
            refine At.thenR ?_
            refine At.inBlockR ?_
            have h := outs1 h hk539
            refine At.joinR ?_
            refine At.thenR ?_
            refine At.thenR ?_
            refine At.inBlockR ?_
            refine At.thenR ?_
            obtain ⟨rfl, rfl⟩ := tup2 h
            have hs592 : Stp [13, 14, 15, 16, 18, 19, 20, 21, 1001, 1002, 1003, 1005] (Lg.O0 A) w O570 wd589 := (Stp.trans (Stp.up hst27 rfl) (Stp.trans (Stp.up hst42 rfl) (Stp.trans (Stp.up hst47 rfl) (Stp.trans (Stp.up hst79 rfl) (Stp.trans (Stp.up hst88 rfl) (Stp.trans (Stp.up hst93 rfl) (Stp.trans (Stp.up hst108 rfl) (Stp.trans (Stp.up hst126 rfl) (Stp.trans (Stp.up hst152 rfl) (Stp.trans (Stp.up hst167 rfl) (Stp.trans (Stp.up hst189 rfl) (Stp.trans (Stp.up hst191 rfl) (Stp.trans (Stp.up hst201 rfl) (Stp.trans (Stp.up hst209 rfl) (Stp.trans (Stp.up hst545 rfl) (Stp.trans (Stp.up hst547 rfl) (Stp.trans (Stp.up hst573 rfl) (Stp.up hst590 rfl))))))))))))))))))
            exact At.res (.inl rfl) rfl (.cell rfl (hb591.runAg 0 [vi 0, vu 0, vi 0, .slice none 0 0, vi 0, .slice none 0 0] ty27 rfl rfl rfl) (.tmp rfl .nil)) ⟨.slice none 0 0, .slice none 0 0, rfl, (Stp.ext hs592 rfl rfl), (Or.inl ⟨rfl, rfl⟩), (Or.inl ⟨rfl, rfl⟩)⟩
          · refine WC.condF' rfl hc574 ?_
            refine WC.skip ?_
            refine At.then ?_
            refine WC.seq ?_
            refine WC.seq ?_
            refine WC.region ?_
            refine WL.y (Y.move rfl) rfl ?_
            refine WL.y (Y.eql_i rfl rfl) rfl ?_
            refine WL.nil ?_
            refine At.then ?_
            rcases cnd h with ⟨hc593, h⟩ | ⟨hc593, h⟩
            · refine WC.condT' rfl hc593 ?_
              refine WC.exit ?_
              refine At.thenX ?_
              refine At.inBlockHit ?_
              have hf594 := hb202.st hst545 rfl
              have hf595 := hf594.st hst547 rfl
              have hf596 := hf595.st hst573 rfl
              exact At.join (σ := (Int × List UInt64 × Own × Value)) (0, [], O570, .slice none 0 0) ⟨go2 h, (Stp.trans (Stp.up hst545 rfl) (Stp.trans (Stp.up hst547 rfl) (Stp.up hst573 rfl))), (OwnSl.nil 1017 Rep.u 22), hf596⟩ (.cons rfl (.cons rfl (.cons rfl (.cons rfl (.cons rfl .nil)))))
            · refine WC.condF' rfl hc593 ?_
              refine WC.skip ?_
              refine At.then ?_
              refine WC.seq ?_
              refine WC.drawH [16, 22, 23] [0, 1, 2, 3, 4, 5, 6, 7, 8, 9, 10, 11] O570 13 fmix rfl (by kernel_rfl) ?_
              intro wd597 hst598
              refine WD.y 0 rfl (by kernel_rfl) (fun _ _ _ => Y.fieldAddr fo99_0 rfl) rfl ?_
              refine WD.y 1 rfl (by kernel_rfl) (fun wd603 O602 hst604 => have hf605 := hb548.st hst573 rfl; have hf606 := hf605.st hst598 rfl; have hf607 := hf606.st hst604 rfl; Y.loadSc ty98 rfl rfl (hf607.cell 0 _ rfl)) rfl ?_
              refine WD.y 2 rfl (by kernel_rfl) (fun _ _ _ => Y.fieldAddr fo99_0 rfl) rfl ?_
              refine WD.y 3 rfl (by kernel_rfl) (fun wd612 O611 hst613 => have hf614 := hb548.st hst573 rfl; have hf615 := hf614.st hst598 rfl; have hf616 := hf615.st hst613 rfl; Y.loadSc ty98 rfl rfl (hf616.cell 0 _ rfl)) rfl ?_
              refine WD.y 4 rfl (by kernel_rfl) (fun _ _ _ => Y.move rfl) rfl ?_
              refine WD.y 5 rfl (by kernel_rfl) (fun _ _ _ => Y.move rfl) rfl ?_
              refine WD.y 7 rfl (by kernel_rfl) (fun _ _ _ => Y.nilCheck rfl) rfl ?_
              refine WD.y 8 rfl (by kernel_rfl) (fun _ _ _ => Y.fieldAddr fo25_0 rfl) rfl ?_
              obtain ⟨p636, h, hk637⟩ := bnd h
              refine WD.join (σ := (List UInt64 × Own × Value)) (f' := 1) [11, 10, 9, 8, 7, 6, 5, 4, 3, 2, 1, 0] (fun x O' w' => x.1 = p636 ∧ Stp [16, 22, 23] O570 wd597 x.2.1 w' ∧ Blk 16 x.2.1 w' p186 27 [vi r61.Scale, vu (r61.Zero + r62.Zero), vi c203, v205, vi r564, .slice none 0 0] ∧ OwnSl 1010 Rep.u 22 x.2.1 w' x.2.2 x.1 ∧ x.2.1 = O') (fun x => [(4, .pointer (some ⟨p44, 0, none⟩)), (15, .pointer (some ⟨p186, 0, none⟩)), (17, .pointer (some ⟨p542, 0, none⟩)), (18, vi r564), (71, .slice (some ⟨p198, 0, none⟩) 2 2), (72, vi 2), (73, vi 1), (96, x.2.2), (100, .pointer (some ⟨p186, 5, none⟩))]) (fun hJ638 => ?_) ?_
              · refine WD.heavy2 6 9 rfl rfl (by kernel_rfl) ?_ ?_
                · obtain ⟨t639, ht639, h⟩ := bnd h
                  refine WL.make (O := O570) (R := Rep.u) (zx := (0 : UInt64)) 22 (by decide) ty23 ty22 rfl (by decide) (by decide) rfl rfl (fun _ _ => rfl) ht639 rfl ?_
                  intro v640 O642 wd643 hst644 ho641
                  refine WL.nil ?_
                  refine At.dq (Stp.up hst644 rfl) ?_
                  refine WD.heavy 9 rfl (by kernel_rfl) ?_
                  have hf645 := hb202.st hst545 rfl
                  have hf646 := hf645.st hst547 rfl
                  have hf647 := hf646.st hst573 rfl
                  have hf648 := hf647.st hst598 rfl
                  have hf649 := hf648.st hst644 rfl
                  refine WL.store (v := vi r564) (cells' := [vi r61.Scale, vu (r61.Zero + r62.Zero), vi c203, v205, vi r564, .slice none 0 0]) ty3 rfl rfl hf649 rfl (Nat.le_of_ble_eq_true rfl) rfl rfl ?_
                  intro wd650 hst651 hb652
                  refine WL.nil ?_
                  refine At.dq (Stp.up hst651 rfl) ?_
                  refine WD.y 10 rfl (by kernel_rfl) (fun _ _ _ => Y.nilCheck rfl) rfl ?_
                  refine WD.y 11 rfl (by kernel_rfl) (fun _ _ _ => Y.fieldAddr fo25_1 rfl) rfl ?_
                  have hf659 := ho641.st hst651 rfl rfl rfl
                  obtain ⟨O660, hst661, ho662⟩ := OwnSl.rlb 1010 rfl hf659
                  have hf663 := hb652.st hst661 rfl
                  refine WD.own (Stp.up hst661 rfl) ?_
                  refine WD.perm _ [11, 10, 9, 8, 7, 6, 5, 4, 3, 2, 1, 0] (by kernel_rfl) ?_
                  exact hJ638 (t639, O660, v640) _ _ _ ⟨some1 h, (Stp.trans (Stp.up hst644 rfl) (Stp.trans (Stp.up hst651 rfl) (Stp.up hst661 rfl))), hf663, ho662, rfl⟩ (.cons rfl (.cons rfl (.cons rfl (.cons rfl (.cons rfl (.cons rfl (.cons rfl (.cons rfl (.cons rfl .nil)))))))))
                · try simp only [Option.bind_assoc] at h
                  try simp only [Option.bind_some] at h
                  have hf664 := hb202.st hst545 rfl
                  have hf665 := hf664.st hst547 rfl
                  have hf666 := hf665.st hst573 rfl
                  have hf667 := hf666.st hst598 rfl
                  refine WL.store (v := vi r564) (cells' := [vi r61.Scale, vu (r61.Zero + r62.Zero), vi c203, v205, vi r564, .slice none 0 0]) ty3 rfl rfl hf667 rfl (Nat.le_of_ble_eq_true rfl) rfl rfl ?_
                  intro wd668 hst669 hb670
                  refine WL.nil ?_
                  refine At.dq (Stp.up hst669 rfl) ?_
                  refine WD.heavy 6 rfl (by kernel_rfl) ?_
                  obtain ⟨t671, ht671, h⟩ := bnd h
                  refine WL.make (O := O570) (R := Rep.u) (zx := (0 : UInt64)) 23 (by decide) ty23 ty22 rfl (by decide) (by decide) rfl rfl (fun _ _ => rfl) ht671 rfl ?_
                  intro v672 O674 wd675 hst676 ho673
                  refine WL.nil ?_
                  refine At.dq (Stp.up hst676 rfl) ?_
                  refine WD.y 10 rfl (by kernel_rfl) (fun _ _ _ => Y.nilCheck rfl) rfl ?_
                  refine WD.y 11 rfl (by kernel_rfl) (fun _ _ _ => Y.fieldAddr fo25_1 rfl) rfl ?_
                  obtain ⟨O683, hst684, ho685⟩ := OwnSl.rlb 1010 rfl ho673
                  have hf686 := hb670.st hst676 rfl
                  have hf687 := hf686.st hst684 rfl
                  refine WD.own (Stp.up hst684 rfl) ?_
                  refine WD.perm _ [11, 10, 9, 8, 7, 6, 5, 4, 3, 2, 1, 0] (by kernel_rfl) ?_
                  exact hJ638 (t671, O683, v672) _ _ _ ⟨some1 h, (Stp.trans (Stp.up hst669 rfl) (Stp.trans (Stp.up hst676 rfl) (Stp.up hst684 rfl))), hf687, ho685, rfl⟩ (.cons rfl (.cons rfl (.cons rfl (.cons rfl (.cons rfl (.cons rfl (.cons rfl (.cons rfl (.cons rfl .nil)))))))))
              · rintro ⟨x630, O633, v631⟩ _ wd634 ⟨rfl, hst635, hb629, hf632, rfl⟩
                replace h := hk637
                try dsimp only at h hst635 hb629 hf632
                refine (show WD _ _ _ _ _ _ _ _ [(4, .pointer (some ⟨p44, 0, none⟩)), (15, .pointer (some ⟨p186, 0, none⟩)), (17, .pointer (some ⟨p542, 0, none⟩)), (18, vi r564), (71, .slice (some ⟨p198, 0, none⟩) 2 2), (72, vi 2), (73, vi 1), (96, v631), (100, .pointer (some ⟨p186, 5, none⟩))] _ _ from ?_)
                refine WD.phase [16] [0, 1, 2, 3, 4, 5, 6, 7, 8, 9, 10, 11, 12] (by kernel_rfl) (by kernel_rfl) ?_
                refine WD.heavy 12 rfl (by kernel_rfl) ?_
                have hh691 := h
                obtain ⟨p688, m689, c690, rfl⟩ := hf632.shape
                have h := hh691
                refine WL.store (v := (.slice p688 m689 c690)) (cells' := [vi r61.Scale, vu (r61.Zero + r62.Zero), vi c203, v205, vi r564, (.slice p688 m689 c690)]) ty23 rfl rfl hb629 rfl (Nat.le_of_ble_eq_true rfl) rfl rfl ?_
                intro wd692 hst693 hb694
                refine WL.nil ?_
                refine At.dq (Stp.up hst693 rfl) ?_
                refine WD.done_ (by kernel_rfl) ?_
                refine At.then ?_
                refine WC.seq ?_
                refine WC.region ?_
                refine WL.y (Y.fieldAddr fo99_0 rfl) rfl ?_
                have hf695 := hb548.st hst573 rfl
                have hf696 := hf695.st hst598 rfl
                have hf697 := hf696.st hst635 rfl
                have hf698 := hf697.st hst693 rfl
                refine WL.y (Y.loadSc ty98 rfl rfl (hf698.cell 0 _ rfl)) rfl ?_
                refine WL.y (Y.nilCheck rfl) rfl ?_
                refine WL.y (Y.fieldAddr fo25_1 rfl) rfl ?_
                refine WL.y (Y.loadSc ty23 rfl rfl (hb694.cell 5 _ rfl)) rfl ?_
                have hf699 := hf632.st hst693 rfl rfl rfl
                refine WL.y (Y.len ty23 rfl hf699.src.sl) rfl ?_
                refine WL.y (Y.move rfl) rfl ?_
                refine WL.nil ?_
                refine At.then ?_
                obtain ⟨p706, h, hk707⟩ := bnd h
                refine WC.join (σ := (List UInt64 × Own)) (fun x w' => x.1 = p706 ∧ Stp [1010, 1011, 1012] O633 wd692 x.2 w' ∧ OwnSl 1014 Rep.u 22 x.2 w' (.slice p688 m689 c690) x.1) (fun x => [(4, .pointer (some ⟨p44, 0, none⟩)), (15, .pointer (some ⟨p186, 0, none⟩)), (71, .slice (some ⟨p198, 0, none⟩) 2 2), (72, vi 2), (73, vi 1)]) ?_ ?_
                · refine WC.block ?_
                  obtain ⟨p721, h, hk723⟩ := flow1 h
                  obtain ⟨k722, h⟩ := loop_some h
                  refine WC.joinB 2 (σ := (List UInt64 × Own)) (fun x w' => p721 = .go x.1 ∧ Stp [1010, 1011] O633 wd692 x.2 w' ∧ OwnSl 1012 Rep.u 22 x.2 w' (.slice p688 m689 c690) x.1) (fun x => [(4, .pointer (some ⟨p44, 0, none⟩)), (15, .pointer (some ⟨p186, 0, none⟩)), (71, .slice (some ⟨p198, 0, none⟩) 2 2), (72, vi 2), (73, vi 1)]) ?_ ?_
                  · obtain ⟨O724, hst725, ho726⟩ := OwnSl.rlb 1011 rfl hf699
                    refine WC.loop (σ := (List UInt64 × Int × Own)) (fun x k w' => loopN k (fold_Merge_lp2 r61 r62 r564 x630) (x.1, x.2.1) = some p721 ∧ Stp [1010, 1011] O633 wd692 x.2.2 w' ∧ OwnSl 1011 Rep.u 22 x.2.2 w' (.slice p688 m689 c690) x.1) (fun x => [(4, .pointer (some ⟨p44, 0, none⟩)), (15, .pointer (some ⟨p186, 0, none⟩)), (17, .pointer (some ⟨p542, 0, none⟩)), (18, vi r564), (71, .slice (some ⟨p198, 0, none⟩) 2 2), (72, vi 2), (73, vi 1), (106, vi (x630.length : Int)), (107, vi x.2.1)]) (x630, 0, O724) k722 (.cons rfl (.cons rfl (.cons rfl (.cons rfl (.cons rfl (.cons rfl (.cons rfl (.cons rfl (.cons rfl .nil))))))))) ⟨h, (Stp.up hst725 rfl), ho726⟩ ?_
                    rintro ⟨c708, x711, O712⟩ k722 wd713 ⟨h, hst714, hf710⟩
                    obtain ⟨j727, q728, rfl, h, hn729⟩ := rnd1 h
                    unfold fold_Merge_lp2 at h
                    try dsimp only at h hst714 hf710
                    refine (show WC _ _ _ _ [(4, .pointer (some ⟨p44, 0, none⟩)), (15, .pointer (some ⟨p186, 0, none⟩)), (17, .pointer (some ⟨p542, 0, none⟩)), (18, vi r564), (71, .slice (some ⟨p198, 0, none⟩) 2 2), (72, vi 2), (73, vi 1), (106, vi (x630.length : Int)), (107, vi x711)] _ from ?_)
                    refine WC.seq ?_
                    refine WC.region ?_
                    refine WL.y (Y.lss_i rfl rfl) rfl ?_
                    refine WL.nil ?_
                    refine At.then ?_
                    refine WC.seq ?_
                    rcases cnd h with ⟨hc730, h⟩ | ⟨hc730, h⟩
                    · refine WC.condT' rfl hc730 ?_
                      refine WC.skip ?_
                      refine At.then ?_
                      refine WC.seq ?_
                      refine WC.block ?_
                      refine WC.seq ?_
                      refine WC.region ?_
                      refine WL.y (Y.move rfl) rfl ?_
                      refine WL.y (Y.assign rfl) rfl ?_
                      refine WL.nil ?_
                      refine At.then ?_
                      refine WC.drawH [] [0, 1, 2, 3, 4, 5, 6, 7, 8, 9, 10, 11, 12, 13, 14, 15, 16, 17, 18, 19] O712 21 fmix rfl (by kernel_rfl) ?_
                      intro wd731 hst732
                      refine WD.y 0 rfl (by kernel_rfl) (fun _ _ _ => Y.fieldAddr fo99_0 rfl) rfl ?_
                      refine WD.y 1 rfl (by kernel_rfl) (fun wd737 O736 hst738 => have hf739 := hf698.st hst714 rfl; have hf740 := hf739.st hst732 rfl; have hf741 := hf740.st hst738 rfl; Y.loadSc ty98 rfl rfl (hf741.cell 0 _ rfl)) rfl ?_
                      refine WD.y 2 rfl (by kernel_rfl) (fun _ _ _ => Y.nilCheck rfl) rfl ?_
                      refine WD.y 3 rfl (by kernel_rfl) (fun _ _ _ => Y.fieldAddr fo25_1 rfl) rfl ?_
                      refine WD.y 4 rfl (by kernel_rfl) (fun wd749 O748 hst750 => have hf751 := hb694.st hst714 rfl; have hf752 := hf751.st hst732 rfl; have hf753 := hf752.st hst750 rfl; Y.loadSc ty23 rfl rfl (hf753.cell 5 _ rfl)) rfl ?_
                      refine WD.y 5 rfl (by kernel_rfl) (fun _ _ _ => Y.move rfl) rfl ?_
                      refine WD.y 6 rfl (by kernel_rfl) (fun _ _ _ => Y.fieldAddr fo99_1 rfl) rfl ?_
                      refine WD.y 7 rfl (by kernel_rfl) (fun wd761 O760 hst762 => have hf763 := hf698.st hst714 rfl; have hf764 := hf763.st hst732 rfl; have hf765 := hf764.st hst762 rfl; Y.loadAg ty25 rfl rfl (hf765.cells 1 [vi r61.Neg.Offset, (.slice p102 m103 c104)] rfl) rfl) rfl ?_
                      refine WD.y 8 rfl (by kernel_rfl) (fun _ _ _ => Y.move rfl) rfl ?_
                      refine WD.y 9 rfl (by kernel_rfl) (fun _ _ _ => Y.move rfl) rfl ?_
                      refine WD.y 10 rfl (by kernel_rfl) (fun _ _ _ => Y.add_i rfl rfl) rfl ?_
                      refine WD.y 12 rfl (by kernel_rfl) (fun _ _ _ => Y.fieldAddr fo99_2 rfl) rfl ?_
                      refine WD.y 13 rfl (by kernel_rfl) (fun wd779 O778 hst780 => have hf781 := hf698.st hst714 rfl; have hf782 := hf781.st hst732 rfl; have hf783 := hf782.st hst780 rfl; Y.loadAg ty25 rfl rfl (hf783.cells 3 [vi r62.Neg.Offset, (.slice p120 m121 c122)] rfl) rfl) rfl ?_
                      refine WD.y 14 rfl (by kernel_rfl) (fun _ _ _ => Y.move rfl) rfl ?_
                      refine WD.y 15 rfl (by kernel_rfl) (fun _ _ _ => Y.move rfl) rfl ?_
                      refine WD.y 16 rfl (by kernel_rfl) (fun _ _ _ => Y.add_i rfl rfl) rfl ?_
                      refine WD.heavy 11 rfl (by kernel_rfl) ?_
                      have hf793 := hf556.mono (frs_st hst573 rfl)
                      have hf794 := hf793.mono (frs_st hst598 rfl)
                      have hf795 := hf794.mono (frs_st hst635 rfl)
                      have hf796 := hf795.mono (frs_st hst693 rfl)
                      have hf797 := hf796.mono (frs_st hst714 rfl)
                      have hf798 := hf797.mono (frs_st hst732 rfl)
                      obtain ⟨r799, hp800, h⟩ := bnd h
                      refine WL.call (vals := [.agg [vi r61.Neg.Offset, (.slice p102 m103 c104)].toArray, vi (w64 (r564 + x711))]) kok23 rfl rfl (c_hist_At (A := fun _ => True) (a0 := r61.Neg) (Sl.all hf798) hp800) ?_
                      rintro vr803 wd802 ⟨rfl, hm801⟩
                      obtain ⟨O804, hold805, hnew806, hst807⟩ := adoptE O712 (fun k => 1) hm801
                      refine WL.nil ?_
                      refine At.dq (Stp.up hst807 rfl) ?_
                      refine WD.heavy 17 rfl (by kernel_rfl) ?_
                      have hf808 := hf563.mono (frs_st hst573 rfl)
                      have hf809 := hf808.mono (frs_st hst598 rfl)
                      have hf810 := hf809.mono (frs_st hst635 rfl)
                      have hf811 := hf810.mono (frs_st hst693 rfl)
                      have hf812 := hf811.mono (frs_st hst714 rfl)
                      have hf813 := hf812.mono (frs_st hst732 rfl)
                      have hf814 := hf813.mono (frs_st hst807 rfl)
                      obtain ⟨r815, hp816, h⟩ := bnd h
                      refine WL.call (vals := [.agg [vi r62.Neg.Offset, (.slice p120 m121 c122)].toArray, vi (w64 (r564 + x711))]) kok23 rfl rfl (c_hist_At (A := fun _ => True) (a0 := r62.Neg) (Sl.all hf814) hp816) ?_
                      rintro vr819 wd818 ⟨rfl, hm817⟩
                      obtain ⟨O820, hold821, hnew822, hst823⟩ := adoptE O804 (fun k => 1) hm817
                      refine WL.nil ?_
                      refine At.dq (Stp.up hst823 rfl) ?_
                      refine WD.y 18 rfl (by kernel_rfl) (fun _ _ _ => Y.add_u rfl rfl) rfl ?_
                      obtain ⟨e827, he827, h⟩ := bnd h
                      have hf836 := hf710.st hst732 rfl rfl rfl
                      have hf837 := hf836.st hst807 rfl rfl rfl
                      have hf838 := hf837.st hst823 rfl rfl rfl
                      obtain ⟨b828, cap835, cs834, hv829, hi830, hl831, hc832, hok833⟩ := OwnSl.at hf838 he827
                      obtain rfl := hok833
                      replace hc832 : CellsAt _ _ _ [vu e827] := hc832
                      have hca839 := CAt.own hf838 hv829 hc832
                      refine WD.y 19 rfl (by kernel_rfl) (fun _ _ _ => Y.indexAddr ty23 ty22 rfl hv829 rfl hi830 hl831) rfl ?_
                      refine WD.phase [1011] [0, 1, 2, 3, 4, 5, 6, 7, 8, 9, 10, 11, 12, 13, 14, 15, 16, 17, 18, 19, 20] (by kernel_rfl) (by kernel_rfl) ?_
                      refine WD.heavy 20 rfl (by kernel_rfl) ?_
                      obtain ⟨t843, ht843, h⟩ := lt1 h
                      refine WL.ren 128 rfl (congrArg vu ht843.symm) ?_
                      obtain ⟨xs844, hxs844, h⟩ := bnd h
                      refine WL.storeOwn (by decide) ty22 rfl rfl rfl hf838 hv829 hxs844 ?_
                      intro wd845 hst846 ho847
                      refine WL.nil ?_
                      refine At.dq (Stp.up hst846 rfl) ?_
                      refine WD.done_ (by kernel_rfl) ?_
                      refine At.inBlock ?_
                      refine At.then ?_
                      refine WC.region ?_
                      refine WL.y (Y.add_i rfl rfl) rfl ?_
                      refine WL.y (Y.move rfl) rfl ?_
                      refine WL.nil ?_
                      exact At.round (xs844, w64 (x711 + 1), O820) j727 (Nat.lt_succ_self _) ⟨next1 h hn729, (Stp.trans (Stp.up hst714 rfl) (Stp.trans (Stp.up hst732 rfl) (Stp.trans (Stp.up hst807 rfl) (Stp.trans (Stp.up hst823 rfl) (Stp.up hst846 rfl))))), ho847⟩ (.cons rfl (.cons rfl (.cons rfl (.cons rfl (.cons rfl (.cons rfl (.cons rfl (.cons rfl (.cons rfl .nil)))))))))
                    · refine WC.condF' rfl hc730 ?_
                      refine WC.exit ?_
                      refine At.thenX ?_
                      refine At.loopX ?_
                      obtain ⟨O848, hst849, ho850⟩ := OwnSl.rlb 1012 rfl hf710
                      exact At.hitB (σ := (List UInt64 × Own)) (c708, O848) ⟨brk1 h hn729, (Stp.trans (Stp.up hst714 rfl) (Stp.up hst849 rfl)), ho850⟩ (.cons rfl (.cons rfl (.cons rfl (.cons rfl (.cons rfl .nil)))))
                  · rintro ⟨c715, O718⟩ wd719 ⟨rfl, hst720, hf717⟩
                    replace h := flowK_go hk723
                    try dsimp only at h hst720 hf717
                    refine (show At _ _ _ [(4, .pointer (some ⟨p44, 0, none⟩)), (15, .pointer (some ⟨p186, 0, none⟩)), (71, .slice (some ⟨p198, 0, none⟩) 2 2), (72, vi 2), (73, vi 1)] _ from ?_)
                    refine At.inBlockHit ?_
                    obtain ⟨O851, hst852, ho853⟩ := OwnSl.rlb 1014 rfl hf717
                    exact At.join (σ := (List UInt64 × Own)) (c715, O851) ⟨some1 h, (Stp.trans (Stp.up hst720 rfl) (Stp.up hst852 rfl)), ho853⟩ (.cons rfl (.cons rfl (.cons rfl (.cons rfl (.cons rfl .nil)))))
                · rintro ⟨c700, O703⟩ wd704 ⟨rfl, hst705, hf702⟩
                  replace h := hk707
                  try dsimp only at h hst705 hf702
                  refine (show At _ _ _ [(4, .pointer (some ⟨p44, 0, none⟩)), (15, .pointer (some ⟨p186, 0, none⟩)), (71, .slice (some ⟨p198, 0, none⟩) 2 2), (72, vi 2), (73, vi 1)] _ from ?_)
                  refine At.inBlock ?_
                  obtain ⟨O854, hst855, ho856⟩ := OwnSl.rlb 1017 rfl hf702
                  have hf857 := hb694.st hst705 rfl
                  have hf858 := hf857.st hst855 rfl
                  exact At.join (σ := (Int × List UInt64 × Own × Value)) (r564, c700, O854, (.slice p688 m689 c690)) ⟨go2 h, (Stp.trans (Stp.up hst545 rfl) (Stp.trans (Stp.up hst547 rfl) (Stp.trans (Stp.up hst573 rfl) (Stp.trans (Stp.up hst598 rfl) (Stp.trans (Stp.up hst635 rfl) (Stp.trans (Stp.up hst693 rfl) (Stp.trans (Stp.up hst705 rfl) (Stp.up hst855 rfl)))))))), ho856, hf858⟩ (.cons rfl (.cons rfl (.cons rfl (.cons rfl (.cons rfl .nil)))))
        · rintro ⟨c531, c532, O535, v533⟩ wd536 ⟨rfl, hst537, hf534, hb530⟩
          replace h := flowK_go hk539
          try dsimp only at h hst537 hf534 hb530
          refine (show At _ _ _ [(4, .pointer (some ⟨p44, 0, none⟩)), (15, .pointer (some ⟨p186, 0, none⟩)), (71, .slice (some ⟨p198, 0, none⟩) 2 2), (72, vi 2), (73, vi 1)] _ from ?_)
          refine At.then ?_
          refine WC.region ?_
          refine WL.yE (Y.add_i rfl rfl) (congrArg vi (by decide : w64 (1 + 1) = 2)) rfl ?_
          refine WL.y (Y.move rfl) rfl ?_
          refine WL.nil ?_
          refine At.again ?_
          refine WC.seq ?_
          refine WC.region ?_
          refine WL.yE (Y.lss_i rfl rfl) (congrArg Value.bool (by decide : decide ((2 : Int) < (2 : Int)) = false)) rfl ?_
          refine WL.nil ?_
          refine At.then ?_
          refine WC.seq ?_
          refine WC.condF rfl ?_
          refine WC.exit ?_
          refine At.thenX ?_
          refine At.thenX ?_
          refine At.inBlockHit ?_
          refine At.then ?_
          refine WC.seq ?_
          refine WC.region ?_
          refine WL.y (Y.loadAg ty27 rfl rfl (hb530.cells 0 [vi r61.Scale, vu (r61.Zero + r62.Zero), vi c203, v205, vi c531, v533] rfl) rfl) rfl ?_
          have hf859 := hf206.st hst537 rfl rfl rfl
          have hh863 := h
          obtain ⟨p860, m861, c862, rfl⟩ := hf859.shape
          have h := hh863
          have hh867 := h
          obtain ⟨p864, m865, c866, rfl⟩ := hf534.shape
          have h := hh867
          have hf868 := hb43.st hst79 rfl
          have hf869 := hf868.st hst88 rfl
          have hf870 := hf869.st hst93 rfl
          have hf871 := hf870.st hst108 rfl
          have hf872 := hf871.st hst126 rfl
          have hf873 := hf872.st hst152 rfl
          have hf874 := hf873.st hst167 rfl
          have hf875 := hf874.st hst189 rfl
          have hf876 := hf875.st hst191 rfl
          have hf877 := hf876.st hst201 rfl
          have hf878 := hf877.st hst209 rfl
          have hf879 := hf878.st hst537 rfl
          refine WL.store (v := .agg [vi r61.Scale, vu (r61.Zero + r62.Zero), vi c203, (.slice p860 m861 c862), vi c531, (.slice p864 m865 c866)].toArray) (cells' := [vi r61.Scale, vu (r61.Zero + r62.Zero), vi c203, (.slice p860 m861 c862), vi c531, (.slice p864 m865 c866)]) ty27 rfl rfl hf879 rfl (Nat.le_of_ble_eq_true rfl) rfl rfl ?_
          intro wd880 hst881 hb882
          refine WL.y (Y.assign rfl) rfl ?_
          refine WL.nil ?_
          refine At.then ?_
          refine WC.ret ?_
          obtain ⟨rfl, rfl⟩ := tup2 h
          have hf883 := hf859.st hst881 rfl rfl rfl
          obtain ⟨O884, hst885, hf886⟩ := OwnSl.giveF rfl Flat.u hf883
          have hf887 := hf534.st hst881 rfl rfl rfl
          have hf888 := hf887.st hst885 rfl rfl rfl
          obtain ⟨O889, hst890, hf891⟩ := OwnSl.giveF rfl Flat.u hf888
          have hs892 : Stp [13, 14, 15, 16, 18, 19, 20, 21, 22, 23, 1001, 1002, 1003, 1005, 1008, 1010, 1011, 1012, 1014, 1017] (Lg.O0 A) w O889 wd880 := (Stp.trans (Stp.up hst27 rfl) (Stp.trans (Stp.up hst42 rfl) (Stp.trans (Stp.up hst47 rfl) (Stp.trans (Stp.up hst79 rfl) (Stp.trans (Stp.up hst88 rfl) (Stp.trans (Stp.up hst93 rfl) (Stp.trans (Stp.up hst108 rfl) (Stp.trans (Stp.up hst126 rfl) (Stp.trans (Stp.up hst152 rfl) (Stp.trans (Stp.up hst167 rfl) (Stp.trans (Stp.up hst189 rfl) (Stp.trans (Stp.up hst191 rfl) (Stp.trans (Stp.up hst201 rfl) (Stp.trans (Stp.up hst209 rfl) (Stp.trans (Stp.up hst537 rfl) (Stp.trans (Stp.up hst881 rfl) (Stp.trans (Stp.up hst885 rfl) (Stp.up hst890 rfl))))))))))))))))))
          have hf893 := hf886.mono (frs_st hst890 rfl)
          have hf894 := hb882.st hst885 rfl
          have hf895 := hf894.st hst890 rfl
          exact At.res (.inl rfl) rfl (.cell rfl (hf895.runAg 0 [vi r61.Scale, vu (r61.Zero + r62.Zero), vi c203, (.slice p860 m861 c862), vi c531, (.slice p864 m865 c866)] ty27 rfl rfl rfl) (.tmp rfl .nil)) ⟨(.slice p860 m861 c862), (.slice p864 m865 c866), rfl, (Stp.ext hs892 rfl rfl), (Sl.outF hf893 hs892 low0), (Sl.outF hf891 hs892 low0)⟩

theorem c_slices_Clone_uint64_uint64 {A : Nat → Prop} {a0 : List UInt64} {v0 : Value} {w : World} (hs0 : Sl Rep.u w A v0 a0) {r0 : List UInt64} (h : slices_Clone_uint64_uint64 a0 = some r0) : Rets Try.prog 65 [v0] w (fun v w' => ∃ (u0 : Value), v = u0 ∧ Ext w w' ∧ RowF Rep.u 22 w w' u0 r0) := by
  unfold slices_Clone_uint64_uint64 at h
  refine Rets.enter Try.func65 rfl rfl ?_
  refine (show WC _ _ _ _ [(0, v0)] _ from ?_)
  refine WC.seq (WC.region (WL.y (Y.assign rfl) rfl (WL.nil (At.then ?_))))
  refine WC.seq (WC.seq (WC.region ?_))
  refine WL.y (Y.move rfl) rfl ?_
  rcases hs0.nilOr with ⟨rfl, rfl⟩ | ⟨q, n, c, rfl⟩
  · refine WL.y (Y.slnil (p := none) (n := 0) (c := 0) ty23.u rfl rfl) rfl (WL.nil (At.then ?_))
    refine WC.condT rfl (WC.seq (WC.region (WL.y (Y.assign rfl) rfl (WL.nil (At.then (WC.ret (At.thenR ?_)))))))
    have : r0 = [] := by simpa [app] using h.symm
    subst this
    exact At.res (.inl rfl) rfl (.tmp rfl .nil) ⟨_, rfl, Ext.refl w, RowF.nil⟩
  · refine WL.y (Y.slnil (p := some _) ty23.u rfl rfl) rfl (WL.nil (At.then ?_))
    refine WC.condF rfl (WC.skip (At.then ?_))
    refine WC.seq (WC.region ?_)
    have hs := hs0
    refine WL.buildSlice (O := Lg.O0 A) (R := Rep.u) (vals := []) 11 [] (xs := []) (by decide) ty23 ty22 (by decide) (by decide) (Fits.evalp rfl) (by kernel_rfl) rfl rfl rfl ?_
    intro v O1 w1 hst1 ho1
    refine WL.y (Y.move rfl) rfl ?_
    have hs1 := (Sl.start hs).mono (imm_st hst1 rfl rfl)
    refine WL.append (by decide) ty23 ty22 rfl (by decide) rfl rfl ho1 hs1.src h rfl ?_
    intro v2 O2 w2 hst2 ho2
    refine WL.y (Y.assign rfl) rfl (WL.nil (At.then (WC.ret ?_)))
    have hs9 : Stp [11] (Lg.O0 A) w O2 w2 := (Stp.trans (Stp.up hst1 rfl) hst2)
    exact At.res (.inl rfl) rfl (.tmp rfl .nil) ⟨_, rfl, Stp.ext hs9 rfl rfl, OwnSl.outF ho2 hs9 low0 rfl⟩

theorem c_hist_Trim {A : Nat → Prop} {v0_1 : Value} {a0 : api_Side} {w : World} (hs0_1 : Sl Rep.u w A v0_1 a0.Counts) {r0 : api_Side} (h : hist_Trim a0 = some r0) : Rets Try.prog 28 [.agg [vi a0.Offset, v0_1].toArray] w (fun v w' => ∃ (u0_1 : Value), v = .agg (List.toArray [vi r0.Offset, u0_1]) ∧ Ext w w' ∧ Sl Rep.u w' (fun k => w.heap.size ≤ k) u0_1 r0.Counts) := by
  unfold hist_Trim at h
  refine Rets.enter Try.func28 rfl rfl ?_
  have hf11 : Sl Rep.u w (imm (Lg.O0 A)) v0_1 a0.Counts := (Sl.start hs0_1)
  refine (show WC _ _ _ _ [(0, .agg [vi a0.Offset, v0_1].toArray)] _ from ?_)
  refine WC.seq ?_
  refine WC.region ?_
  have hh15 := h
  obtain ⟨p12, m13, c14, rfl⟩ := hf11.shape
  have h := hh15
  refine WL.box (O := (Lg.O0 A)) 11 [vi a0.Offset, (.slice p12 m13 c14)] rfl rfl rfl ?_
  intro p17 O18 wd19 hst20 hb16
  refine WL.alloc (O := O18) 12 [vi 0, .slice none 0 0] ty25 rfl rfl ?_
  intro p22 O23 wd24 hst25 hb21
  refine WL.nil ?_
  refine At.then ?_
  refine WC.seq ?_
  refine WC.draw 4 O23 fmix (by kernel_rfl) ?_
  intro wd26 hst27
  refine WS.y (Y.fieldAddr fo25_1 rfl) rfl ?_
  have hf28 := hb16.st hst25 rfl
  have hf29 := hf28.st hst27 rfl
  refine WS.y (Y.loadSc ty23 rfl rfl (hf29.cell 1 _ rfl)) rfl ?_
  have hf30 := hf11.mono (imm_st hst20 rfl rfl)
  have hf31 := hf30.mono (imm_st hst25 rfl rfl)
  have hf32 := hf31.mono (imm_st hst27 rfl rfl)
  refine WS.y (Y.len ty23 rfl hf32) rfl ?_
  refine WS.y (Y.assign rfl) rfl ?_
  refine WS.tail ?_
  obtain ⟨to33, hto33, h⟩ := lt1 h
  refine WL.yE (Y.assign rfl) (congrArg vi hto33.symm) rfl ?_
  refine WL.nil ?_
  refine At.then ?_
  refine WC.seq ?_
  obtain ⟨p35, h, hk36⟩ := bnd h
  refine WC.join (σ := Int) (fun x w' => x = p35 ∧ wd26 = w') (fun x => [(1, .pointer (some ⟨p17, 0, none⟩)), (2, .pointer (some ⟨p22, 0, none⟩)), (3, vi x), (4, vi to33)]) ?_ ?_
  · refine WC.block ?_
    obtain ⟨p39, h, hk41⟩ := flow1 h
    obtain ⟨k40, h⟩ := loop_some h
    refine WC.joinB 0 (σ := Int) (fun x w' => p39 = .go x ∧ wd26 = w') (fun x => [(1, .pointer (some ⟨p17, 0, none⟩)), (2, .pointer (some ⟨p22, 0, none⟩)), (3, vi x), (4, vi to33)]) ?_ ?_
    · refine WC.loop (σ := Int) (fun x k w' => loopN k (hist_Trim_lp1 a0 to33) x = some p39 ∧ wd26 = w') (fun x => [(1, .pointer (some ⟨p17, 0, none⟩)), (2, .pointer (some ⟨p22, 0, none⟩)), (3, vi x), (4, vi to33)]) 0 k40 (.cons rfl (.cons rfl (.cons rfl (.cons rfl .nil)))) ⟨h, rfl⟩ ?_
      rintro from37 k40 _ ⟨h, rfl⟩
      obtain ⟨j42, q43, rfl, h, hn44⟩ := rnd1 h
      unfold hist_Trim_lp1 at h
      try dsimp only at h
      refine (show WC _ _ _ _ [(1, .pointer (some ⟨p17, 0, none⟩)), (2, .pointer (some ⟨p22, 0, none⟩)), (3, vi from37), (4, vi to33)] _ from ?_)
      refine WC.seq ?_
      refine WC.seq ?_
      refine WC.region ?_
      refine WL.y (Y.move rfl) rfl ?_
      refine WL.y (Y.move rfl) rfl ?_
      refine WL.y (Y.lss_i rfl rfl) rfl ?_
      refine WL.y (Y.move rfl) rfl ?_
      obtain ⟨p46, h, hk47⟩ := bnd h
      refine WL.cut 7 (σ := Bool) (fun x w' => x = p46 ∧ wd26 = w') (fun x => [(1, .pointer (some ⟨p17, 0, none⟩)), (2, .pointer (some ⟨p22, 0, none⟩)), (3, vi from37), (4, vi to33), (18, .bool x)]) ?_ ?_
      · rcases cnd h with ⟨hE48, h⟩ | ⟨hE48, h⟩
        · refine WL.ren 11 rfl (congrArg Value.bool hE48) ?_
          refine WL.ung rfl rfl ?_
          refine WL.y (Y.fieldAddr fo25_1 rfl) rfl ?_
          refine WL.ung rfl rfl ?_
          refine WL.y (Y.loadSc ty23 rfl rfl (hf29.cell 1 _ rfl)) rfl ?_
          refine WL.ung rfl rfl ?_
          refine WL.y (Y.move rfl) rfl ?_
          refine WL.ung rfl rfl ?_
          obtain ⟨e49, he49, h⟩ := bnd h
          obtain ⟨b50, off58, cap57, cs56, hv51, hi52, hl53, hc54, hok55, hA59⟩ := Sl.at2 hf32 he49
          obtain rfl := hok55
          replace hc54 : CellsAt _ _ _ [vu e49] := hc54
          have hca60 := CAt.imm hc54 hA59
          refine WL.y (Y.indexAddr ty23 ty22 rfl hv51 rfl hi52 hl53) rfl ?_
          refine WL.ung rfl rfl ?_
          refine WL.y (Y.loadSc ty22 rfl rfl hca60.at_) rfl ?_
          refine WL.ung rfl rfl ?_
          refine WL.y (Y.eql_u (b := 0) rfl rfl) rfl ?_
          refine WL.y (Y.pick (b := true) rfl rfl) rfl ?_
          exact WL.nil (At.join (σ := Bool) (decide (e49 = 0)) ⟨some1 h, rfl⟩ (.cons rfl (.cons rfl (.cons rfl (.cons rfl (.cons rfl .nil))))))
        · refine WL.ren 11 rfl (congrArg Value.bool hE48) ?_
          refine WL.gS rfl rfl rfl rfl ?_
          refine WL.gS rfl rfl rfl rfl ?_
          refine WL.gS rfl rfl rfl rfl ?_
          refine WL.gS rfl rfl rfl rfl ?_
          refine WL.gS rfl rfl rfl rfl ?_
          refine WL.gS rfl rfl rfl rfl ?_
          refine WL.y (Y.pick (b := false) rfl rfl) rfl ?_
          exact WL.nil (At.join (σ := Bool) false ⟨some1 h, rfl⟩ (.cons rfl (.cons rfl (.cons rfl (.cons rfl (.cons rfl .nil))))))
      · rintro x45 _ ⟨rfl, rfl⟩
        replace h := hk47
        try dsimp only at h
        refine (show WL _ _ _ _ _ [(1, .pointer (some ⟨p17, 0, none⟩)), (2, .pointer (some ⟨p22, 0, none⟩)), (3, vi from37), (4, vi to33), (18, .bool x45)] _ from ?_)
        refine WL.nil ?_
        refine At.then ?_
        rcases cnd h with ⟨hc61, h⟩ | ⟨hc61, h⟩
        · refine WC.condT' rfl hc61 ?_
          refine WC.skip ?_
          refine At.then ?_
          refine WC.block ?_
          refine WC.region ?_
          refine WL.y (Y.move rfl) rfl ?_
          refine WL.y (Y.add_i rfl rfl) rfl ?_
          obtain ⟨from62, hfrom62, h⟩ := lt1 h
          refine WL.yE (Y.assign rfl) (congrArg vi hfrom62.symm) rfl ?_
          refine WL.nil ?_
          refine At.inBlock ?_
          exact At.round from62 j42 (Nat.lt_succ_self _) ⟨next1 h hn44, rfl⟩ (.cons rfl (.cons rfl (.cons rfl (.cons rfl .nil))))
        · refine WC.condF' rfl hc61 ?_
          refine WC.exit ?_
          refine At.thenX ?_
          refine At.loopX ?_
          exact At.hitB (σ := Int) from37 ⟨brk1 h hn44, rfl⟩ (.cons rfl (.cons rfl (.cons rfl (.cons rfl .nil))))
    · rintro from38 _ ⟨rfl, rfl⟩
      replace h := flowK_go hk41
      try dsimp only at h
      refine (show At _ _ _ [(1, .pointer (some ⟨p17, 0, none⟩)), (2, .pointer (some ⟨p22, 0, none⟩)), (3, vi from38), (4, vi to33)] _ from ?_)
      refine At.inBlockHit ?_
      exact At.join (σ := Int) from38 ⟨some1 h, rfl⟩ (.cons rfl (.cons rfl (.cons rfl (.cons rfl .nil))))
  · rintro from34 _ ⟨rfl, rfl⟩
    replace h := hk36
    try dsimp only at h
    refine (show At _ _ _ [(1, .pointer (some ⟨p17, 0, none⟩)), (2, .pointer (some ⟨p22, 0, none⟩)), (3, vi from34), (4, vi to33)] _ from ?_)
    refine At.then ?_
    refine WC.seq ?_
    obtain ⟨p64, h, hk65⟩ := bnd h
    refine WC.join (σ := Int) (fun x w' => x = p64 ∧ wd26 = w') (fun x => [(1, .pointer (some ⟨p17, 0, none⟩)), (2, .pointer (some ⟨p22, 0, none⟩)), (3, vi from34), (4, vi x)]) ?_ ?_
    · refine WC.block ?_
      obtain ⟨p68, h, hk70⟩ := flow1 h
      obtain ⟨k69, h⟩ := loop_some h
      refine WC.joinB 2 (σ := Int) (fun x w' => p68 = .go x ∧ wd26 = w') (fun x => [(1, .pointer (some ⟨p17, 0, none⟩)), (2, .pointer (some ⟨p22, 0, none⟩)), (3, vi from34), (4, vi x)]) ?_ ?_
      · refine WC.loop (σ := Int) (fun x k w' => loopN k (hist_Trim_lp2 a0 from34) x = some p68 ∧ wd26 = w') (fun x => [(1, .pointer (some ⟨p17, 0, none⟩)), (2, .pointer (some ⟨p22, 0, none⟩)), (3, vi from34), (4, vi x)]) to33 k69 (.cons rfl (.cons rfl (.cons rfl (.cons rfl .nil)))) ⟨h, rfl⟩ ?_
        rintro to66 k69 _ ⟨h, rfl⟩
        obtain ⟨j71, q72, rfl, h, hn73⟩ := rnd1 h
        unfold hist_Trim_lp2 at h
        try dsimp only at h
        refine (show WC _ _ _ _ [(1, .pointer (some ⟨p17, 0, none⟩)), (2, .pointer (some ⟨p22, 0, none⟩)), (3, vi from34), (4, vi to66)] _ from ?_)
        refine WC.seq ?_
        refine WC.seq ?_
        refine WC.region ?_
        refine WL.y (Y.move rfl) rfl ?_
        refine WL.y (Y.move rfl) rfl ?_
        refine WL.y (Y.gtr_i rfl rfl) rfl ?_
        refine WL.y (Y.move rfl) rfl ?_
        obtain ⟨p75, h, hk76⟩ := bnd h
        refine WL.cut 8 (σ := Bool) (fun x w' => x = p75 ∧ wd26 = w') (fun x => [(1, .pointer (some ⟨p17, 0, none⟩)), (2, .pointer (some ⟨p22, 0, none⟩)), (3, vi from34), (4, vi to66), (32, .bool x)]) ?_ ?_
        · rcases cnd h with ⟨hE77, h⟩ | ⟨hE77, h⟩
          · refine WL.ren 24 rfl (congrArg Value.bool hE77) ?_
            refine WL.ung rfl rfl ?_
            refine WL.y (Y.fieldAddr fo25_1 rfl) rfl ?_
            refine WL.ung rfl rfl ?_
            refine WL.y (Y.loadSc ty23 rfl rfl (hf29.cell 1 _ rfl)) rfl ?_
            refine WL.ung rfl rfl ?_
            refine WL.y (Y.move rfl) rfl ?_
            refine WL.ung rfl rfl ?_
            refine WL.y (Y.sub_i rfl rfl) rfl ?_
            refine WL.ung rfl rfl ?_
            obtain ⟨e78, he78, h⟩ := bnd h
            obtain ⟨b79, off87, cap86, cs85, hv80, hi81, hl82, hc83, hok84, hA88⟩ := Sl.at2 hf32 he78
            obtain rfl := hok84
            replace hc83 : CellsAt _ _ _ [vu e78] := hc83
            have hca89 := CAt.imm hc83 hA88
            refine WL.y (Y.indexAddr ty23 ty22 rfl hv80 rfl hi81 hl82) rfl ?_
            refine WL.ung rfl rfl ?_
            refine WL.y (Y.loadSc ty22 rfl rfl hca89.at_) rfl ?_
            refine WL.ung rfl rfl ?_
            refine WL.y (Y.eql_u (b := 0) rfl rfl) rfl ?_
            refine WL.y (Y.pick (b := true) rfl rfl) rfl ?_
            exact WL.nil (At.join (σ := Bool) (decide (e78 = 0)) ⟨some1 h, rfl⟩ (.cons rfl (.cons rfl (.cons rfl (.cons rfl (.cons rfl .nil))))))
          · refine WL.ren 24 rfl (congrArg Value.bool hE77) ?_
            refine WL.gS rfl rfl rfl rfl ?_
            refine WL.gS rfl rfl rfl rfl ?_
            refine WL.gS rfl rfl rfl rfl ?_
            refine WL.gS rfl rfl rfl rfl ?_
            refine WL.gS rfl rfl rfl rfl ?_
            refine WL.gS rfl rfl rfl rfl ?_
            refine WL.gS rfl rfl rfl rfl ?_
            refine WL.y (Y.pick (b := false) rfl rfl) rfl ?_
            exact WL.nil (At.join (σ := Bool) false ⟨some1 h, rfl⟩ (.cons rfl (.cons rfl (.cons rfl (.cons rfl (.cons rfl .nil))))))
        · rintro x74 _ ⟨rfl, rfl⟩
          replace h := hk76
          try dsimp only at h
          refine (show WL _ _ _ _ _ [(1, .pointer (some ⟨p17, 0, none⟩)), (2, .pointer (some ⟨p22, 0, none⟩)), (3, vi from34), (4, vi to66), (32, .bool x74)] _ from ?_)
          refine WL.nil ?_
          refine At.then ?_
          rcases cnd h with ⟨hc90, h⟩ | ⟨hc90, h⟩
          · refine WC.condT' rfl hc90 ?_
            refine WC.skip ?_
            refine At.then ?_
            refine WC.block ?_
            refine WC.region ?_
            refine WL.y (Y.move rfl) rfl ?_
            refine WL.y (Y.sub_i rfl rfl) rfl ?_
            obtain ⟨to91, hto91, h⟩ := lt1 h
            refine WL.yE (Y.assign rfl) (congrArg vi hto91.symm) rfl ?_
            refine WL.nil ?_
            refine At.inBlock ?_
            exact At.round to91 j71 (Nat.lt_succ_self _) ⟨next1 h hn73, rfl⟩ (.cons rfl (.cons rfl (.cons rfl (.cons rfl .nil))))
          · refine WC.condF' rfl hc90 ?_
            refine WC.exit ?_
            refine At.thenX ?_
            refine At.loopX ?_
            exact At.hitB (σ := Int) to66 ⟨brk1 h hn73, rfl⟩ (.cons rfl (.cons rfl (.cons rfl (.cons rfl .nil))))
      · rintro to67 _ ⟨rfl, rfl⟩
        replace h := flowK_go hk70
        try dsimp only at h
        refine (show At _ _ _ [(1, .pointer (some ⟨p17, 0, none⟩)), (2, .pointer (some ⟨p22, 0, none⟩)), (3, vi from34), (4, vi to67)] _ from ?_)
        refine At.inBlockHit ?_
        exact At.join (σ := Int) to67 ⟨some1 h, rfl⟩ (.cons rfl (.cons rfl (.cons rfl (.cons rfl .nil))))
    · rintro to63 _ ⟨rfl, rfl⟩
      replace h := hk65
      try dsimp only at h
      refine (show At _ _ _ [(1, .pointer (some ⟨p17, 0, none⟩)), (2, .pointer (some ⟨p22, 0, none⟩)), (3, vi from34), (4, vi to63)] _ from ?_)
      refine At.then ?_
      refine WC.seq ?_
      refine WC.seq ?_
      refine WC.region ?_
      refine WL.y (Y.move rfl) rfl ?_
      refine WL.y (Y.move rfl) rfl ?_
      refine WL.y (Y.eql_i rfl rfl) rfl ?_
      refine WL.nil ?_
      refine At.then ?_
      rcases cnd h with ⟨hc92, h⟩ | ⟨hc92, h⟩
      · refine WC.condT' rfl hc92 ?_
        refine WC.seq ?_
        refine WC.region ?_
        refine WL.y (Y.build (vals := []) (cells := [vi 0, .slice none 0 0]) (Fits.evalp rfl) (by kernel_rfl)) rfl ?_
        have hf93 := hb21.st hst27 rfl
        refine WL.store (v := .agg [vi 0, .slice none 0 0].toArray) (cells' := [vi 0, .slice none 0 0]) ty25 rfl rfl hf93 rfl (Nat.le_of_ble_eq_true rfl) rfl rfl ?_
        intro wd94 hst95 hb96
        refine WL.nil ?_
        refine At.then ?_
        refine WC.ret ?_
        refine At.thenR ?_
        obtain rfl := some1 h
        have hs97 : Stp [12] (Lg.O0 A) w O23 wd94 := (Stp.trans (Stp.up hst20 rfl) (Stp.trans (Stp.up hst25 rfl) (Stp.trans (Stp.up hst27 rfl) (Stp.up hst95 rfl))))
        exact At.res (.inl rfl) rfl (.cell rfl (hb96.runAg 0 [vi 0, .slice none 0 0] ty25 rfl rfl rfl) .nil) ⟨.slice none 0 0, rfl, (Stp.ext hs97 rfl rfl), (Or.inl ⟨rfl, rfl⟩)⟩
      · refine WC.condF' rfl hc92 ?_
        refine WC.skip ?_
        refine At.then ?_
        refine WC.seq ?_
        refine WC.drawH [] [0, 1, 2, 3, 4, 5, 6, 7, 8, 9, 10] O23 12 fmix rfl (by kernel_rfl) ?_
        intro wd98 hst99
        refine WD.y 0 rfl (by kernel_rfl) (fun _ _ _ => Y.fieldAddr fo25_0 rfl) rfl ?_
        refine WD.y 1 rfl (by kernel_rfl) (fun wd104 O103 hst105 => have hf106 := hf29.st hst99 rfl; have hf107 := hf106.st hst105 rfl; Y.loadSc ty3 rfl rfl (hf107.cell 0 _ rfl)) rfl ?_
        refine WD.y 2 rfl (by kernel_rfl) (fun _ _ _ => Y.move rfl) rfl ?_
        refine WD.y 3 rfl (by kernel_rfl) (fun _ _ _ => Y.add_i rfl rfl) rfl ?_
        refine WD.y 4 rfl (by kernel_rfl) (fun _ _ _ => Y.fieldAddr fo25_1 rfl) rfl ?_
        refine WD.y 5 rfl (by kernel_rfl) (fun wd118 O117 hst119 => have hf120 := hf29.st hst99 rfl; have hf121 := hf120.st hst119 rfl; Y.loadSc ty23 rfl rfl (hf121.cell 1 _ rfl)) rfl ?_
        refine WD.y 6 rfl (by kernel_rfl) (fun _ _ _ => Y.move rfl) rfl ?_
        refine WD.y 7 rfl (by kernel_rfl) (fun _ _ _ => Y.move rfl) rfl ?_
        obtain ⟨t128, ht128, h⟩ := bnd h
        have hf131 := hf32.mono (imm_st hst99 rfl rfl)
        obtain ⟨v129, hY132, hf130⟩ := Sl.slice (ρ := [(44, (.slice p12 m13 c14)), (45, vi from34), (46, vi to63)]) (x := (.tmp 44)) (lo := (some (.tmp 45))) (hi := (some (.tmp 46))) ty23 ty22 rfl rfl rfl hf131 ht128
        refine WD.y 8 rfl (by kernel_rfl) (fun _ _ _ => Y.sub (.cons rfl (.cons rfl (.cons rfl .nil))) (hY132 _ _)) rfl ?_
        refine WD.heavy 9 rfl (by kernel_rfl) ?_
        obtain ⟨r136, hp137, h⟩ := bnd h
        refine WL.call (vals := [v129]) kok65 rfl rfl (c_slices_Clone_uint64_uint64 (A := fun _ => True) (Sl.all hf130) hp137) ?_
        rintro vr142 wd141 ⟨_, rfl, hm140, f139⟩
        obtain ⟨O143, hold144, hnew145, hst146⟩ := adoptE O23 (fun k => if Value.ownBlock vr142 = some k then 13 else 1) hm140
        have hf147 : OwnSl 13 Rep.u 22 O143 wd141 vr142 r136 := RowF.adopt 13 Flat.u f139 hnew145 (fun k hk => if_pos hk)
        refine WL.nil ?_
        refine At.dq (Stp.up hst146 rfl) ?_
        have hh151 := h
        obtain ⟨p148, m149, c150, rfl⟩ := hf147.shape
        have h := hh151
        refine WD.y 10 rfl (by kernel_rfl) (fun _ _ _ => Y.build (vals := [(0, vi (w64 (a0.Offset + from34))), (1, (.slice p148 m149 c150))]) (cells := [vi (w64 (a0.Offset + from34)), (.slice p148 m149 c150)]) (Fits.evalp rfl) (by kernel_rfl)) rfl ?_
        refine WD.phase [12] [0, 1, 2, 3, 4, 5, 6, 7, 8, 9, 10, 11] (by kernel_rfl) (by kernel_rfl) ?_
        refine WD.heavy 11 rfl (by kernel_rfl) ?_
        have hf155 := hb21.st hst27 rfl
        have hf156 := hf155.st hst99 rfl
        have hf157 := hf156.st hst146 rfl
        refine WL.store (v := .agg [vi (w64 (a0.Offset + from34)), (.slice p148 m149 c150)].toArray) (cells' := [vi (w64 (a0.Offset + from34)), (.slice p148 m149 c150)]) ty25 rfl rfl hf157 rfl (Nat.le_of_ble_eq_true rfl) rfl rfl ?_
        intro wd158 hst159 hb160
        refine WL.nil ?_
        refine At.dq (Stp.up hst159 rfl) ?_
        refine WD.done_ (by kernel_rfl) ?_
        refine At.then ?_
        refine WC.ret ?_
        obtain rfl := some1 h
        have hf161 := hf147.st hst159 rfl rfl rfl
        obtain ⟨O162, hst163, hf164⟩ := OwnSl.giveF rfl Flat.u hf161
        have hs165 : Stp [12, 13] (Lg.O0 A) w O162 wd158 := (Stp.trans (Stp.up hst20 rfl) (Stp.trans (Stp.up hst25 rfl) (Stp.trans (Stp.up hst27 rfl) (Stp.trans (Stp.up hst99 rfl) (Stp.trans (Stp.up hst146 rfl) (Stp.trans (Stp.up hst159 rfl) (Stp.up hst163 rfl)))))))
        have hf166 := hb160.st hst163 rfl
        exact At.res (.inl rfl) rfl (.cell rfl (hf166.runAg 0 [vi (w64 (a0.Offset + from34)), (.slice p148 m149 c150)] ty25 rfl rfl rfl) .nil) ⟨(.slice p148 m149 c150), rfl, (Stp.ext hs165 rfl rfl), (Sl.outF hf164 hs165 low0)⟩

theorem c_fold_left {A : Nat → Prop} {v0_1 : Value} {a0 : api_Side} {v1_1 : Value} {a1 : api_Side} {w : World} (hs0_1 : Sl Rep.u w A v0_1 a0.Counts) (hs1_1 : Sl Rep.u w A v1_1 a1.Counts) {r0 : api_Side} {r1 : Bool} (h : fold_left a0 a1 = some (r0, r1)) : Rets Try.prog 73 [.agg [vi a0.Offset, v0_1].toArray, .agg [vi a1.Offset, v1_1].toArray] w (fun v w' => ∃ (u0_1 : Value), v = .tuple (List.toArray [.agg (List.toArray [vi r0.Offset, u0_1]), .bool r1]) ∧ Ext w w' ∧ Sl Rep.u w' (fun k => w.heap.size ≤ k) u0_1 r0.Counts) := by
  unfold fold_left at h
  refine Rets.enter Try.func73 rfl rfl ?_
  have hf11 : Sl Rep.u w (imm (Lg.O0 A)) v0_1 a0.Counts := (Sl.start hs0_1)
  have hf12 : Sl Rep.u w (imm (Lg.O0 A)) v1_1 a1.Counts := (Sl.start hs1_1)
  refine (show WC _ _ _ _ [(0, .agg [vi a0.Offset, v0_1].toArray), (1, .agg [vi a1.Offset, v1_1].toArray)] _ from ?_)
  refine WC.seq ?_
  refine WC.region ?_
  have hh16 := h
  obtain ⟨p13, m14, c15, rfl⟩ := hf11.shape
  have h := hh16
  refine WL.box (O := (Lg.O0 A)) 11 [vi a0.Offset, (.slice p13 m14 c15)] rfl rfl rfl ?_
  intro p18 O19 wd20 hst21 hb17
  have hf22 := hf12.mono (imm_st hst21 rfl rfl)
  have hh26 := h
  obtain ⟨p23, m24, c25, rfl⟩ := hf22.shape
  have h := hh26
  refine WL.box (O := O19) 12 [vi a1.Offset, (.slice p23 m24 c25)] rfl rfl rfl ?_
  intro p28 O29 wd30 hst31 hb27
  refine WL.alloc (O := O29) 13 [vi 0, .slice none 0 0] ty25 rfl rfl ?_
  intro p33 O34 wd35 hst36 hb32
  refine WL.y (Y.assign rfl) rfl ?_
  refine WL.nil ?_
  refine At.then ?_
  refine WC.seq ?_
  refine WC.seq ?_
  refine WC.region ?_
  refine WL.y (Y.fieldAddr fo25_1 rfl) rfl ?_
  have hf37 := hb27.st hst36 rfl
  refine WL.y (Y.loadSc ty23 rfl rfl (hf37.cell 1 _ rfl)) rfl ?_
  have hf38 := hf22.mono (imm_st hst31 rfl rfl)
  have hf39 := hf38.mono (imm_st hst36 rfl rfl)
  refine WL.y (Y.len ty23 rfl hf39) rfl ?_
  refine WL.y (Y.move rfl) rfl ?_
  refine WL.nil ?_
  refine At.then ?_
  obtain ⟨p43, h, hk44⟩ := flow1 h
  refine WC.join (σ := Own) (fun x w' => p43 = .go () ∧ Stp [] O34 wd35 x w') (fun x => [(2, .pointer (some ⟨p18, 0, none⟩)), (3, .pointer (some ⟨p28, 0, none⟩)), (4, .pointer (some ⟨p33, 0, none⟩))]) ?_ ?_
  · refine WC.block ?_
    obtain ⟨p52, h, hk54⟩ := flow1 h
    obtain ⟨k53, h⟩ := loop_some h
    refine WC.joinB 0 (σ := Own) (fun x w' => p52 = .go () ∧ Stp [] O34 wd35 x w') (fun x => [(2, .pointer (some ⟨p18, 0, none⟩)), (3, .pointer (some ⟨p28, 0, none⟩)), (4, .pointer (some ⟨p33, 0, none⟩))]) ?_ ?_
    · refine WC.loop (σ := (Int × Own)) (fun x k w' => loopN k (fold_left_lp1 a0 a1) x.1 = some p52 ∧ Stp [] O34 wd35 x.2 w') (fun x => [(2, .pointer (some ⟨p18, 0, none⟩)), (3, .pointer (some ⟨p28, 0, none⟩)), (4, .pointer (some ⟨p33, 0, none⟩)), (12, (.slice p23 m24 c25)), (13, vi (a1.Counts.length : Int)), (14, vi x.1)]) (0, O34) k53 (.cons rfl (.cons rfl (.cons rfl (.cons rfl (.cons rfl (.cons rfl .nil)))))) ⟨h, (Stp.refl _ _ _)⟩ ?_
      rintro ⟨x45, O46⟩ k53 wd47 ⟨h, hst48⟩
      obtain ⟨j55, q56, rfl, h, hn57⟩ := rnd1 h
      unfold fold_left_lp1 at h
      try dsimp only at h hst48
      refine (show WC _ _ _ _ [(2, .pointer (some ⟨p18, 0, none⟩)), (3, .pointer (some ⟨p28, 0, none⟩)), (4, .pointer (some ⟨p33, 0, none⟩)), (12, (.slice p23 m24 c25)), (13, vi (a1.Counts.length : Int)), (14, vi x45)] _ from ?_)
      refine WC.seq ?_
      refine WC.region ?_
      refine WL.y (Y.lss_i rfl rfl) rfl ?_
      refine WL.nil ?_
      refine At.then ?_
      refine WC.seq ?_
      rcases cnd h with ⟨hc58, h⟩ | ⟨hc58, h⟩
      · refine WC.condT' rfl hc58 ?_
        refine WC.skip ?_
        refine At.then ?_
        refine WC.seq ?_
        refine WC.block ?_
        refine WC.seq ?_
        refine WC.region ?_
        refine WL.y (Y.move rfl) rfl ?_
        obtain ⟨e59, he59, h⟩ := bnd h
        have hf68 := hf39.mono (imm_st hst48 rfl rfl)
        obtain ⟨b60, off69, cap67, cs66, hv61, hi62, hl63, hc64, hok65, hA70⟩ := Sl.at2 hf68 he59
        obtain rfl := hok65
        replace hc64 : CellsAt _ _ _ [vu e59] := hc64
        have hca71 := CAt.imm hc64 hA70
        refine WL.y (Y.indexAddr ty23 ty22 rfl hv61 rfl hi62 hl63) rfl ?_
        refine WL.y (Y.loadSc ty22 rfl rfl hca71.at_) rfl ?_
        refine WL.y (Y.assign rfl) rfl ?_
        refine WL.y (Y.assign rfl) rfl ?_
        refine WL.nil ?_
        refine At.then ?_
        refine WC.seq ?_
        refine WC.region ?_
        refine WL.y (Y.move rfl) rfl ?_
        have hf72 := hb17.st hst31 rfl
        have hf73 := hf72.st hst36 rfl
        have hf74 := hf73.st hst48 rfl
        refine WL.y (Y.loadAg ty25 rfl rfl (hf74.cells 0 [vi a0.Offset, (.slice p13 m14 c15)] rfl) rfl) rfl ?_
        refine WL.y (Y.fieldAddr fo25_0 rfl) rfl ?_
        have hf75 := hf37.st hst48 rfl
        refine WL.y (Y.loadSc ty3 rfl rfl (hf75.cell 0 _ rfl)) rfl ?_
        refine WL.y (Y.move rfl) rfl ?_
        refine WL.y (Y.add_i rfl rfl) rfl ?_
        have hf76 := hf11.mono (imm_st hst21 rfl rfl)
        have hf77 := hf76.mono (imm_st hst31 rfl rfl)
        have hf78 := hf77.mono (imm_st hst36 rfl rfl)
        have hf79 := hf78.mono (imm_st hst48 rfl rfl)
        obtain ⟨r80, hp81, h⟩ := bnd h
        refine WL.call (vals := [.agg [vi a0.Offset, (.slice p13 m14 c15)].toArray, vi (w64 (a1.Offset + x45))]) kok23 rfl rfl (c_hist_At (A := fun _ => True) (a0 := a0) (Sl.all hf79) hp81) ?_
        rintro vr84 wd83 ⟨rfl, hm82⟩
        obtain ⟨O85, hold86, hnew87, hst88⟩ := adoptE O46 (fun k => 1) hm82
        refine WL.y (Y.gtr_u rfl rfl) rfl ?_
        refine WL.nil ?_
        refine At.then ?_
        rcases cnd h with ⟨hc89, h⟩ | ⟨hc89, h⟩
        · refine WC.condT' rfl hc89 ?_
          refine WC.seq ?_
          refine WC.region ?_
          refine WL.y (Y.build (vals := []) (cells := [vi 0, .slice none 0 0]) (Fits.evalp rfl) (by kernel_rfl)) rfl ?_
          have hf90 := hb32.st hst48 rfl
          have hf91 := hf90.st hst88 rfl
          refine WL.store (v := .agg [vi 0, .slice none 0 0].toArray) (cells' := [vi 0, .slice none 0 0]) ty25 rfl rfl hf91 rfl (Nat.le_of_ble_eq_true rfl) rfl rfl ?_
          intro wd92 hst93 hb94
          refine WL.y (Y.assign rfl) rfl ?_
          refine WL.nil ?_
          refine At.then ?_
          refine WC.ret ?_
          refine At.inBlockR ?_
          refine At.thenR ?_
          refine At.loopR ?_
          have h := outr1 h hn57 hk54
          refine At.joinBR ?_
          refine At.inBlockR ?_
          have h := outs1 h hk44
          refine At.joinR ?_
          refine At.thenR ?_
          obtain ⟨rfl, rfl⟩ := tup2 h
          have hs95 : Stp [13] (Lg.O0 A) w O85 wd92 := (Stp.trans (Stp.up hst21 rfl) (Stp.trans (Stp.up hst31 rfl) (Stp.trans (Stp.up hst36 rfl) (Stp.trans (Stp.up hst48 rfl) (Stp.trans (Stp.up hst88 rfl) (Stp.up hst93 rfl))))))
          exact At.res (.inl rfl) rfl (.cell rfl (hb94.runAg 0 [vi 0, .slice none 0 0] ty25 rfl rfl rfl) (.tmp rfl .nil)) ⟨.slice none 0 0, rfl, (Stp.ext hs95 rfl rfl), (Or.inl ⟨rfl, rfl⟩)⟩
        · refine WC.condF' rfl hc89 ?_
          refine WC.skip ?_
          refine At.inBlock ?_
          refine At.then ?_
          refine WC.region ?_
          refine WL.y (Y.add_i rfl rfl) rfl ?_
          refine WL.y (Y.move rfl) rfl ?_
          refine WL.nil ?_
          exact At.round (w64 (x45 + 1), O85) j55 (Nat.lt_succ_self _) ⟨next1 h hn57, (Stp.trans (Stp.up hst48 rfl) (Stp.up hst88 rfl))⟩ (.cons rfl (.cons rfl (.cons rfl (.cons rfl (.cons rfl (.cons rfl .nil))))))
      · refine WC.condF' rfl hc58 ?_
        refine WC.exit ?_
        refine At.thenX ?_
        refine At.loopX ?_
        exact At.hitB (σ := Own) O46 ⟨brk1 h hn57, (Stp.up hst48 rfl)⟩ (.cons rfl (.cons rfl (.cons rfl .nil)))
    · rintro O49 wd50 ⟨rfl, hst51⟩
      replace h := flowK_go hk54
      refine (show At _ _ _ [(2, .pointer (some ⟨p18, 0, none⟩)), (3, .pointer (some ⟨p28, 0, none⟩)), (4, .pointer (some ⟨p33, 0, none⟩))] _ from ?_)
      refine At.inBlockHit ?_
      exact At.join (σ := Own) O49 ⟨go2 h, (Stp.up hst51 rfl)⟩ (.cons rfl (.cons rfl (.cons rfl .nil)))
  · rintro O40 wd41 ⟨rfl, hst42⟩
    replace h := flowK_go hk44
    refine (show At _ _ _ [(2, .pointer (some ⟨p18, 0, none⟩)), (3, .pointer (some ⟨p28, 0, none⟩)), (4, .pointer (some ⟨p33, 0, none⟩))] _ from ?_)
    refine At.then ?_
    refine WC.seq ?_
    refine WC.region ?_
    refine WL.y (Y.fieldAddr fo25_0 rfl) rfl ?_
    have hf96 := hb17.st hst31 rfl
    have hf97 := hf96.st hst36 rfl
    have hf98 := hf97.st hst42 rfl
    refine WL.y (Y.loadSc ty3 rfl rfl (hf98.cell 0 _ rfl)) rfl ?_
    refine WL.y (Y.build (vals := [(0, vi a0.Offset)]) (cells := [vi a0.Offset, .slice none 0 0]) (Fits.evalp rfl) (by kernel_rfl)) rfl ?_
    refine WL.alloc (O := O40) 14 [vi 0, .slice none 0 0] ty25 rfl rfl ?_
    intro p100 O101 wd102 hst103 hb99
    refine WL.store (v := .agg [vi a0.Offset, .slice none 0 0].toArray) (cells' := [vi a0.Offset, .slice none 0 0]) ty25 rfl rfl hb99 rfl (Nat.le_of_ble_eq_true rfl) rfl rfl ?_
    intro wd104 hst105 hb106
    refine WL.nil ?_
    refine At.then ?_
    refine WC.seq ?_
    refine WC.seq ?_
    refine WC.region ?_
    refine WL.y (Y.fieldAddr fo25_1 rfl) rfl ?_
    have hf107 := hf98.st hst103 rfl
    have hf108 := hf107.st hst105 rfl
    refine WL.y (Y.loadSc ty23 rfl rfl (hf108.cell 1 _ rfl)) rfl ?_
    have hf109 := hf11.mono (imm_st hst21 rfl rfl)
    have hf110 := hf109.mono (imm_st hst31 rfl rfl)
    have hf111 := hf110.mono (imm_st hst36 rfl rfl)
    have hf112 := hf111.mono (imm_st hst42 rfl rfl)
    have hf113 := hf112.mono (imm_st hst103 rfl rfl)
    have hf114 := hf113.mono (imm_st hst105 rfl rfl)
    refine WL.y (Y.len ty23 rfl hf114) rfl ?_
    refine WL.y (Y.move rfl) rfl ?_
    refine WL.nil ?_
    refine At.then ?_
    obtain ⟨p122, h, hk123⟩ := bnd h
    refine WC.join (σ := (List UInt64 × Own × Value)) (fun x w' => x.1 = p122 ∧ Stp [14, 16, 1001, 1002] O101 wd104 x.2.1 w' ∧ OwnSl 1004 Rep.u 22 x.2.1 w' x.2.2 x.1 ∧ Blk 14 x.2.1 w' p100 25 [vi a0.Offset, x.2.2]) (fun x => [(4, .pointer (some ⟨p33, 0, none⟩)), (8, .pointer (some ⟨p100, 0, none⟩))]) ?_ ?_
    · refine WC.block ?_
      obtain ⟨p139, h, hk141⟩ := flow1 h
      obtain ⟨k140, h⟩ := loop_some h
      refine WC.joinB 2 (σ := (List UInt64 × Own × Value)) (fun x w' => p139 = .go x.1 ∧ Stp [14, 16, 1001] O101 wd104 x.2.1 w' ∧ OwnSl 1002 Rep.u 22 x.2.1 w' x.2.2 x.1 ∧ Blk 14 x.2.1 w' p100 25 [vi a0.Offset, x.2.2]) (fun x => [(4, .pointer (some ⟨p33, 0, none⟩)), (8, .pointer (some ⟨p100, 0, none⟩))]) ?_ ?_
      · refine WC.loop (σ := (List UInt64 × Int × Own × Value)) (fun x k w' => loopN k (fold_left_lp2 a0 a1) (x.1, x.2.1) = some p139 ∧ Stp [14, 16, 1001] O101 wd104 x.2.2.1 w' ∧ OwnSl 1001 Rep.u 22 x.2.2.1 w' x.2.2.2 x.1 ∧ Blk 14 x.2.2.1 w' p100 25 [vi a0.Offset, x.2.2.2]) (fun x => [(2, .pointer (some ⟨p18, 0, none⟩)), (3, .pointer (some ⟨p28, 0, none⟩)), (4, .pointer (some ⟨p33, 0, none⟩)), (8, .pointer (some ⟨p100, 0, none⟩)), (33, (.slice p13 m14 c15)), (34, vi (a0.Counts.length : Int)), (35, vi x.2.1)]) ([], 0, O101, .slice none 0 0) k140 (.cons rfl (.cons rfl (.cons rfl (.cons rfl (.cons rfl (.cons rfl (.cons rfl .nil))))))) ⟨h, (Stp.refl _ _ _), (OwnSl.nil 1001 Rep.u 22), hb106⟩ ?_
        rintro ⟨c125, x128, O129, v126⟩ k140 wd130 ⟨h, hst131, hf127, hb124⟩
        obtain ⟨j142, q143, rfl, h, hn144⟩ := rnd1 h
        unfold fold_left_lp2 at h
        try dsimp only at h hst131 hf127 hb124
        refine (show WC _ _ _ _ [(2, .pointer (some ⟨p18, 0, none⟩)), (3, .pointer (some ⟨p28, 0, none⟩)), (4, .pointer (some ⟨p33, 0, none⟩)), (8, .pointer (some ⟨p100, 0, none⟩)), (33, (.slice p13 m14 c15)), (34, vi (a0.Counts.length : Int)), (35, vi x128)] _ from ?_)
        refine WC.seq ?_
        refine WC.region ?_
        refine WL.y (Y.lss_i rfl rfl) rfl ?_
        refine WL.nil ?_
        refine At.then ?_
        refine WC.seq ?_
        rcases cnd h with ⟨hc145, h⟩ | ⟨hc145, h⟩
        · refine WC.condT' rfl hc145 ?_
          refine WC.skip ?_
          refine At.then ?_
          refine WC.seq ?_
          refine WC.block ?_
          refine WC.seq ?_
          refine WC.region ?_
          refine WL.y (Y.move rfl) rfl ?_
          obtain ⟨e146, he146, h⟩ := bnd h
          have hf155 := hf114.mono (imm_st hst131 rfl rfl)
          obtain ⟨b147, off156, cap154, cs153, hv148, hi149, hl150, hc151, hok152, hA157⟩ := Sl.at2 hf155 he146
          obtain rfl := hok152
          replace hc151 : CellsAt _ _ _ [vu e146] := hc151
          have hca158 := CAt.imm hc151 hA157
          refine WL.y (Y.indexAddr ty23 ty22 rfl hv148 rfl hi149 hl150) rfl ?_
          refine WL.y (Y.loadSc ty22 rfl rfl hca158.at_) rfl ?_
          refine WL.y (Y.assign rfl) rfl ?_
          refine WL.y (Y.assign rfl) rfl ?_
          refine WL.nil ?_
          refine At.then ?_
          refine WC.drawH [1001] [0, 1, 2, 3, 4, 5, 6, 7, 8, 9, 10, 11, 12] O129 14 fmix rfl (by kernel_rfl) ?_
          intro wd159 hst160
          refine WD.y 0 rfl (by kernel_rfl) (fun _ _ _ => Y.fieldAddr fo25_1 rfl) rfl ?_
          refine WD.y 1 rfl (by kernel_rfl) (fun wd165 O164 hst166 => have hf167 := hb124.st hst160 rfl; have hf168 := hf167.st hst166 rfl; Y.loadSc ty23 rfl rfl (hf168.cell 1 _ rfl)) rfl ?_
          refine WD.y 2 rfl (by kernel_rfl) (fun _ _ _ => Y.move rfl) rfl ?_
          refine WD.y 3 rfl (by kernel_rfl) (fun wd173 O172 hst174 => have hf175 := hf37.st hst42 rfl; have hf176 := hf175.st hst103 rfl; have hf177 := hf176.st hst105 rfl; have hf178 := hf177.st hst131 rfl; have hf179 := hf178.st hst160 rfl; have hf180 := hf179.st hst174 rfl; Y.loadAg ty25 rfl rfl (hf180.cells 0 [vi a1.Offset, (.slice p23 m24 c25)] rfl) rfl) rfl ?_
          refine WD.y 4 rfl (by kernel_rfl) (fun _ _ _ => Y.fieldAddr fo25_0 rfl) rfl ?_
          refine WD.y 5 rfl (by kernel_rfl) (fun wd185 O184 hst186 => have hf187 := hf108.st hst131 rfl; have hf188 := hf187.st hst160 rfl; have hf189 := hf188.st hst186 rfl; Y.loadSc ty3 rfl rfl (hf189.cell 0 _ rfl)) rfl ?_
          refine WD.y 6 rfl (by kernel_rfl) (fun _ _ _ => Y.move rfl) rfl ?_
          refine WD.y 7 rfl (by kernel_rfl) (fun _ _ _ => Y.add_i rfl rfl) rfl ?_
          refine WD.heavy 8 rfl (by kernel_rfl) ?_
          have hf196 := hf39.mono (imm_st hst42 rfl rfl)
          have hf197 := hf196.mono (imm_st hst103 rfl rfl)
          have hf198 := hf197.mono (imm_st hst105 rfl rfl)
          have hf199 := hf198.mono (imm_st hst131 rfl rfl)
          have hf200 := hf199.mono (imm_st hst160 rfl rfl)
          obtain ⟨r201, hp202, h⟩ := bnd h
          refine WL.call (vals := [.agg [vi a1.Offset, (.slice p23 m24 c25)].toArray, vi (w64 (a0.Offset + x128))]) kok23 rfl rfl (c_hist_At (A := fun _ => True) (a0 := a1) (Sl.all hf200) hp202) ?_
          rintro vr205 wd204 ⟨rfl, hm203⟩
          obtain ⟨O206, hold207, hnew208, hst209⟩ := adoptE O129 (fun k => 1) hm203
          refine WL.nil ?_
          refine At.dq (Stp.up hst209 rfl) ?_
          refine WD.y 9 rfl (by kernel_rfl) (fun _ _ _ => Y.sub_u rfl rfl) rfl ?_
          refine WD.heavy 10 rfl (by kernel_rfl) ?_
          refine WL.buildSlice (O := O206) (R := Rep.u) (vals := [(0, vu (e146 - r201))]) 15 [vu (e146 - r201)] (xs := [(e146 - r201)]) (by decide) ty23 ty22 (by decide) (by decide) (Fits.evalp rfl) (by kernel_rfl) rfl ⟨[vu (e146 - r201)], [], rfl, rfl, rfl⟩ rfl ?_
          intro v213 O215 wd216 hst217 ho214
          refine WL.nil ?_
          refine At.dq (Stp.up hst217 rfl) ?_
          refine WD.heavy 11 rfl (by kernel_rfl) ?_
          obtain ⟨xs218, hxs218, h⟩ := bnd h
          have hf219 := hf127.st hst160 rfl rfl rfl
          have hf220 := hf219.st hst209 rfl rfl rfl
          have hf221 := hf220.st hst217 rfl rfl rfl
          refine WL.append (by decide) ty23 ty22 rfl (by decide) rfl rfl hf221 ho214.src hxs218 rfl ?_
          intro v225 O222 wd223 hst224 ho226
          refine WL.nil ?_
          refine At.dq (Stp.up hst224 rfl) ?_
          refine WD.y 12 rfl (by kernel_rfl) (fun _ _ _ => Y.fieldAddr fo25_1 rfl) rfl ?_
          refine WD.phase [14] [0, 1, 2, 3, 4, 5, 6, 7, 8, 9, 10, 11, 12, 13] (by kernel_rfl) (by kernel_rfl) ?_
          refine WD.heavy 13 rfl (by kernel_rfl) ?_
          have hh233 := h
          obtain ⟨p230, m231, c232, rfl⟩ := ho226.shape
          have h := hh233
          have hf234 := hb124.st hst160 rfl
          have hf235 := hf234.st hst209 rfl
          have hf236 := hf235.st hst217 rfl
          have hf237 := hf236.st hst224 rfl
          refine WL.store (v := (.slice p230 m231 c232)) (cells' := [vi a0.Offset, (.slice p230 m231 c232)]) ty23 rfl rfl hf237 rfl (Nat.le_of_ble_eq_true rfl) rfl rfl ?_
          intro wd238 hst239 hb240
          refine WL.nil ?_
          refine At.dq (Stp.up hst239 rfl) ?_
          refine WD.done_ (by kernel_rfl) ?_
          refine At.inBlock ?_
          refine At.then ?_
          refine WC.region ?_
          refine WL.y (Y.add_i rfl rfl) rfl ?_
          refine WL.y (Y.move rfl) rfl ?_
          refine WL.nil ?_
          have hf241 := ho226.st hst239 rfl rfl rfl
          exact At.round (xs218, w64 (x128 + 1), O222, (.slice p230 m231 c232)) j142 (Nat.lt_succ_self _) ⟨next1 h hn144, (Stp.trans (Stp.up hst131 rfl) (Stp.trans (Stp.up hst160 rfl) (Stp.trans (Stp.up hst209 rfl) (Stp.trans (Stp.up hst217 rfl) (Stp.trans (Stp.up hst224 rfl) (Stp.up hst239 rfl)))))), hf241, hb240⟩ (.cons rfl (.cons rfl (.cons rfl (.cons rfl (.cons rfl (.cons rfl (.cons rfl .nil)))))))
        · refine WC.condF' rfl hc145 ?_
          refine WC.exit ?_
          refine At.thenX ?_
          refine At.loopX ?_
          obtain ⟨O242, hst243, ho244⟩ := OwnSl.rlb 1002 rfl hf127
          have hf245 := hb124.st hst243 rfl
          exact At.hitB (σ := (List UInt64 × Own × Value)) (c125, O242, v126) ⟨brk1 h hn144, (Stp.trans (Stp.up hst131 rfl) (Stp.up hst243 rfl)), ho244, hf245⟩ (.cons rfl (.cons rfl .nil))
      · rintro ⟨c133, O136, v134⟩ wd137 ⟨rfl, hst138, hf135, hb132⟩
        replace h := flowK_go hk141
        try dsimp only at h hst138 hf135 hb132
        refine (show At _ _ _ [(4, .pointer (some ⟨p33, 0, none⟩)), (8, .pointer (some ⟨p100, 0, none⟩))] _ from ?_)
        refine At.inBlockHit ?_
        obtain ⟨O246, hst247, ho248⟩ := OwnSl.rlb 1004 rfl hf135
        have hf249 := hb132.st hst247 rfl
        exact At.join (σ := (List UInt64 × Own × Value)) (c133, O246, v134) ⟨some1 h, (Stp.trans (Stp.up hst138 rfl) (Stp.up hst247 rfl)), ho248, hf249⟩ (.cons rfl (.cons rfl .nil))
    · rintro ⟨c116, O119, v117⟩ wd120 ⟨rfl, hst121, hf118, hb115⟩
      replace h := hk123
      try dsimp only at h hst121 hf118 hb115
      refine (show At _ _ _ [(4, .pointer (some ⟨p33, 0, none⟩)), (8, .pointer (some ⟨p100, 0, none⟩))] _ from ?_)
      refine At.then ?_
      refine WC.seq ?_
      refine WC.region ?_
      refine WL.y (Y.loadAg ty25 rfl rfl (hb115.cells 0 [vi a0.Offset, v117] rfl) rfl) rfl ?_
      obtain ⟨r250, hp251, h⟩ := bnd h
      refine WL.call (vals := [.agg [vi a0.Offset, v117].toArray]) kok28 rfl rfl (c_hist_Trim (A := fun _ => True) (a0 := (api_Side.mk a0.Offset c116)) (hf118.src.sl) hp251) ?_
      rintro vr256 wd255 ⟨u252, rfl, hm254, f253⟩
      obtain ⟨O257, hold258, hnew259, hst260⟩ := adoptE O119 (fun k => 1) hm254
      have hf261 : Sl Rep.u wd255 (frs O257) u252 r250.Counts := Sl.adoptF f253 (fun k hk => ⟨hk, rfl⟩) hnew259
      have hh265 := h
      obtain ⟨p262, m263, c264, rfl⟩ := hf261.shape
      have h := hh265
      have hf266 := hb32.st hst42 rfl
      have hf267 := hf266.st hst103 rfl
      have hf268 := hf267.st hst105 rfl
      have hf269 := hf268.st hst121 rfl
      have hf270 := hf269.st hst260 rfl
      refine WL.store (v := .agg [vi r250.Offset, (.slice p262 m263 c264)].toArray) (cells' := [vi r250.Offset, (.slice p262 m263 c264)]) ty25 rfl rfl hf270 rfl (Nat.le_of_ble_eq_true rfl) rfl rfl ?_
      intro wd271 hst272 hb273
      refine WL.y (Y.assign rfl) rfl ?_
      refine WL.nil ?_
      refine At.then ?_
      refine WC.ret ?_
      obtain ⟨rfl, rfl⟩ := tup2 h
      have hs274 : Stp [13, 14, 16, 1001, 1002] (Lg.O0 A) w O257 wd271 := (Stp.trans (Stp.up hst21 rfl) (Stp.trans (Stp.up hst31 rfl) (Stp.trans (Stp.up hst36 rfl) (Stp.trans (Stp.up hst42 rfl) (Stp.trans (Stp.up hst103 rfl) (Stp.trans (Stp.up hst105 rfl) (Stp.trans (Stp.up hst121 rfl) (Stp.trans (Stp.up hst260 rfl) (Stp.up hst272 rfl)))))))))
      have hf275 := hf261.mono (frs_st hst272 rfl)
      exact At.res (.inl rfl) rfl (.cell rfl (hb273.runAg 0 [vi r250.Offset, (.slice p262 m263 c264)] ty25 rfl rfl rfl) (.tmp rfl .nil)) ⟨(.slice p262 m263 c264), rfl, (Stp.ext hs274 rfl rfl), (Sl.outF hf275 hs274 low0)⟩

end Go.Lg
