/- The walks of XorRows and of what it calls, printed by gen.py. -/
import Derived.Test.YtddfmahlbbbljaaDoorLgXorWXorRowsx0
set_option linter.unusedVariables false
namespace Go.Lg
open Go Go.Proofs
set_option maxRecDepth 100000
set_option maxHeartbeats 4000000
theorem c_ref07_around {A : Nat → Prop} {a0 : List Int} {v0 : Value} {w : World} (hs0 : Sl Rep.i w A v0 a0) {r0 : ref07_Window} (h : ref07_around a0 = some r0) : Rets Tryd.prog 36 [v0] w (fun v w' => v = Value.agg (List.toArray [vi r0.From, vi r0.Size]) ∧ Ext w w') := by
 unfold ref07_around at h
 refine Rets.enter Tryd.func36 rfl rfl ?_
 have hf11 : Sl Rep.i w (imm (Lg.O0 A)) v0 a0 := (Sl.start hs0)
 refine (show WC _ _ _ _ [(0, v0)] _ from ?_)
 refine WC.seq ?_
 refine WC.region ?_
 refine WL.alloc (O := (Lg.O0 A)) 11 [vi 0, vi 0] ty39 rfl rfl ?_
 intro p13 O14 wd15 hst16 hb12
 refine WL.nil ?_
 refine At.then ?_
 refine WC.seq ?_
 refine WC.region ?_
 refine WL.y (Y.assign rfl) rfl ?_
 refine WL.nil ?_
 refine At.then ?_
 refine WC.seq ?_
 obtain ⟨p18, h, hk19⟩ := bnd h
 refine WC.join (σ := Int) (fun x w' => x = p18 ∧ wd15 = w') (fun x => [(0, v0), (2, Value.pointer (some ⟨p13, 0, none⟩)), (3, vi x)]) ?_ ?_
 ·refine WC.block ?_
  obtain ⟨p22, h, hk24⟩ := flow1 h
  obtain ⟨k23, h⟩ := loop_some h
  refine WC.joinB 0 (σ := Int) (fun x w' => p22 = .go x ∧ wd15 = w') (fun x => [(0, v0), (2, Value.pointer (some ⟨p13, 0, none⟩)), (3, vi x)]) ?_ ?_
  ·refine WC.loop (σ := Int) (fun x k w' => loopN k (ref07_around_lp1 a0) x = some p22 ∧ wd15 = w') (fun x => [(0, v0), (2, Value.pointer (some ⟨p13, 0, none⟩)), (3, vi x)]) 0 k23 (.cons rfl (.cons rfl (.cons rfl .nil))) ⟨h, rfl⟩ ?_
   rintro from20 k23 _ ⟨h, rfl⟩
   obtain ⟨j25, q26, rfl, h, hn27⟩ := rnd1 h
   unfold ref07_around_lp1 at h
   try dsimp only at h
   refine (show WC _ _ _ _ [(0, v0), (2, Value.pointer (some ⟨p13, 0, none⟩)), (3, vi from20)] _ from ?_)
   refine WC.seq ?_
   refine WC.seq ?_
   refine WC.region ?_
   refine WL.y (Y.move rfl) rfl ?_
   refine WL.y (Y.lss_i rfl rfl) rfl ?_
   refine WL.y (Y.move rfl) rfl ?_
   obtain ⟨p29, h, hk30⟩ := bnd h
   refine WL.cut 6 (σ := Bool) (fun x w' => x = p29 ∧ wd15 = w') (fun x => [(0, v0), (2, Value.pointer (some ⟨p13, 0, none⟩)), (3, vi from20), (13, Value.bool x)]) ?_ ?_
   ·rcases cnd h with ⟨hE31, h⟩ | ⟨hE31, h⟩
    ·refine WL.ren 7 rfl (congrArg Value.bool hE31) ?_
     refine WL.ung rfl rfl ?_
     refine WL.y (Y.move rfl) rfl ?_
     refine WL.ung rfl rfl ?_
     refine WL.y (Y.move rfl) rfl ?_
     refine WL.ung rfl rfl ?_
     obtain ⟨e32, he32, h⟩ := bnd h
     have hf41 := hf11.mono (imm_st hst16 rfl rfl)
     obtain ⟨b33, off42, cap40, cs39, hv34, hi35, hl36, hc37, hok38, hA43⟩ := Sl.at2 hf41 he32
     obtain rfl := hok38
     replace hc37 : CellsAt _ _ _ [vi e32] := hc37
     have hca44 := CAt.imm hc37 hA43
     refine WL.y (Y.indexAddr ty32 ty3 rfl hv34 rfl hi35 hl36) rfl ?_
     refine WL.ung rfl rfl ?_
     refine WL.y (Y.loadSc ty3 rfl rfl hca44.at_) rfl ?_
     refine WL.ung rfl rfl ?_
     refine WL.y (Y.eql_i rfl rfl) rfl ?_
     refine WL.y (Y.pick (b := true) rfl rfl) rfl ?_
     exact WL.nil (At.join (σ := Bool) (decide (e32 = 0)) ⟨some1 h, rfl⟩ (.cons rfl (.cons rfl (.cons rfl (.cons rfl .nil)))))
    ·refine WL.ren 7 rfl (congrArg Value.bool hE31) ?_
     refine WL.gS rfl rfl rfl rfl ?_
     refine WL.gS rfl rfl rfl rfl ?_
     refine WL.gS rfl rfl rfl rfl ?_
     refine WL.gS rfl rfl rfl rfl ?_
     refine WL.gS rfl rfl rfl rfl ?_
     refine WL.y (Y.pick (b := false) rfl rfl) rfl ?_
     exact WL.nil (At.join (σ := Bool) false ⟨some1 h, rfl⟩ (.cons rfl (.cons rfl (.cons rfl (.cons rfl .nil)))))
   ·rintro x28 _ ⟨rfl, rfl⟩
    replace h := hk30
    try dsimp only at h
    refine (show WL _ _ _ _ _ [(0, v0), (2, Value.pointer (some ⟨p13, 0, none⟩)), (3, vi from20), (13, Value.bool x28)] _ from ?_)
    refine WL.nil ?_
    refine At.then ?_
    rcases cnd h with ⟨hc45, h⟩ | ⟨hc45, h⟩
    ·refine WC.condT' rfl hc45 ?_
     refine WC.skip ?_
     refine At.then ?_
     refine WC.block ?_
     refine WC.region ?_
     refine WL.y (Y.move rfl) rfl ?_
     refine WL.y (Y.add_i rfl rfl) rfl ?_
     obtain ⟨from46, hfrom46, h⟩ := lt1 h
     refine WL.yE (Y.assign rfl) (congrArg vi hfrom46.symm) rfl ?_
     refine WL.nil ?_
     refine At.inBlock ?_
     exact At.round from46 j25 (Nat.lt_succ_self _) ⟨next1 h hn27, rfl⟩ (.cons rfl (.cons rfl (.cons rfl .nil)))
    ·refine WC.condF' rfl hc45 ?_
     refine WC.exit ?_
     refine At.thenX ?_
     refine At.loopX ?_
     exact At.hitB (σ := Int) from20 ⟨brk1 h hn27, rfl⟩ (.cons rfl (.cons rfl (.cons rfl .nil)))
  ·rintro from21 _ ⟨rfl, rfl⟩
   replace h := flowK_go hk24
   try dsimp only at h
   refine (show At _ _ _ [(0, v0), (2, Value.pointer (some ⟨p13, 0, none⟩)), (3, vi from21)] _ from ?_)
   refine At.inBlockHit ?_
   exact At.join (σ := Int) from21 ⟨some1 h, rfl⟩ (.cons rfl (.cons rfl (.cons rfl .nil)))
 ·rintro from17 _ ⟨rfl, rfl⟩
  replace h := hk19
  try dsimp only at h
  refine (show At _ _ _ [(0, v0), (2, Value.pointer (some ⟨p13, 0, none⟩)), (3, vi from17)] _ from ?_)
  refine At.then ?_
  refine WC.seq ?_
  refine WC.region ?_
  refine WL.y (Y.assign rfl) rfl ?_
  refine WL.nil ?_
  refine At.then ?_
  refine WC.seq ?_
  obtain ⟨p48, h, hk49⟩ := bnd h
  refine WC.join (σ := Int) (fun x w' => x = p48 ∧ wd15 = w') (fun x => [(2, Value.pointer (some ⟨p13, 0, none⟩)), (3, vi from17), (4, vi x)]) ?_ ?_
  ·refine WC.block ?_
   obtain ⟨p52, h, hk54⟩ := flow1 h
   obtain ⟨k53, h⟩ := loop_some h
   refine WC.joinB 2 (σ := Int) (fun x w' => p52 = .go x ∧ wd15 = w') (fun x => [(2, Value.pointer (some ⟨p13, 0, none⟩)), (3, vi from17), (4, vi x)]) ?_ ?_
   ·refine WC.loop (σ := Int) (fun x k w' => loopN k (ref07_around_lp2 a0 from17) x = some p52 ∧ wd15 = w') (fun x => [(0, v0), (2, Value.pointer (some ⟨p13, 0, none⟩)), (3, vi from17), (4, vi x)]) 64 k53 (.cons rfl (.cons rfl (.cons rfl (.cons rfl .nil)))) ⟨h, rfl⟩ ?_
    rintro end50 k53 _ ⟨h, rfl⟩
    obtain ⟨j55, q56, rfl, h, hn57⟩ := rnd1 h
    unfold ref07_around_lp2 at h
    try dsimp only at h
    refine (show WC _ _ _ _ [(0, v0), (2, Value.pointer (some ⟨p13, 0, none⟩)), (3, vi from17), (4, vi end50)] _ from ?_)
    refine WC.seq ?_
    refine WC.seq ?_
    refine WC.region ?_
    refine WL.y (Y.move rfl) rfl ?_
    refine WL.y (Y.move rfl) rfl ?_
    refine WL.y (Y.gtr_i rfl rfl) rfl ?_
    refine WL.y (Y.move rfl) rfl ?_
    obtain ⟨p59, h, hk60⟩ := bnd h
    refine WL.cut 7 (σ := Bool) (fun x w' => x = p59 ∧ wd15 = w') (fun x => [(0, v0), (2, Value.pointer (some ⟨p13, 0, none⟩)), (3, vi from17), (4, vi end50), (26, Value.bool x)]) ?_ ?_
    ·rcases cnd h with ⟨hE61, h⟩ | ⟨hE61, h⟩
     ·refine WL.ren 19 rfl (congrArg Value.bool hE61) ?_
      refine WL.ung rfl rfl ?_
      refine WL.y (Y.move rfl) rfl ?_
      refine WL.ung rfl rfl ?_
      refine WL.y (Y.move rfl) rfl ?_
      refine WL.ung rfl rfl ?_
      refine WL.y (Y.sub_i rfl rfl) rfl ?_
      refine WL.ung rfl rfl ?_
      obtain ⟨e62, he62, h⟩ := bnd h
      have hf71 := hf11.mono (imm_st hst16 rfl rfl)
      obtain ⟨b63, off72, cap70, cs69, hv64, hi65, hl66, hc67, hok68, hA73⟩ := Sl.at2 hf71 he62
      obtain rfl := hok68
      replace hc67 : CellsAt _ _ _ [vi e62] := hc67
      have hca74 := CAt.imm hc67 hA73
      refine WL.y (Y.indexAddr ty32 ty3 rfl hv64 rfl hi65 hl66) rfl ?_
      refine WL.ung rfl rfl ?_
      refine WL.y (Y.loadSc ty3 rfl rfl hca74.at_) rfl ?_
      refine WL.ung rfl rfl ?_
      refine WL.y (Y.eql_i rfl rfl) rfl ?_
      refine WL.y (Y.pick (b := true) rfl rfl) rfl ?_
      exact WL.nil (At.join (σ := Bool) (decide (e62 = 0)) ⟨some1 h, rfl⟩ (.cons rfl (.cons rfl (.cons rfl (.cons rfl (.cons rfl .nil))))))
     ·refine WL.ren 19 rfl (congrArg Value.bool hE61) ?_
      refine WL.gS rfl rfl rfl rfl ?_
      refine WL.gS rfl rfl rfl rfl ?_
      refine WL.gS rfl rfl rfl rfl ?_
      refine WL.gS rfl rfl rfl rfl ?_
      refine WL.gS rfl rfl rfl rfl ?_
      refine WL.gS rfl rfl rfl rfl ?_
      refine WL.y (Y.pick (b := false) rfl rfl) rfl ?_
      exact WL.nil (At.join (σ := Bool) false ⟨some1 h, rfl⟩ (.cons rfl (.cons rfl (.cons rfl (.cons rfl (.cons rfl .nil))))))
    ·rintro x58 _ ⟨rfl, rfl⟩
     replace h := hk60
     try dsimp only at h
     refine (show WL _ _ _ _ _ [(0, v0), (2, Value.pointer (some ⟨p13, 0, none⟩)), (3, vi from17), (4, vi end50), (26, Value.bool x58)] _ from ?_)
     refine WL.nil ?_
     refine At.then ?_
     rcases cnd h with ⟨hc75, h⟩ | ⟨hc75, h⟩
     ·refine WC.condT' rfl hc75 ?_
      refine WC.skip ?_
      refine At.then ?_
      refine WC.block ?_
      refine WC.region ?_
      refine WL.y (Y.move rfl) rfl ?_
      refine WL.y (Y.sub_i rfl rfl) rfl ?_
      obtain ⟨end76, hend76, h⟩ := lt1 h
      refine WL.yE (Y.assign rfl) (congrArg vi hend76.symm) rfl ?_
      refine WL.nil ?_
      refine At.inBlock ?_
      exact At.round end76 j55 (Nat.lt_succ_self _) ⟨next1 h hn57, rfl⟩ (.cons rfl (.cons rfl (.cons rfl (.cons rfl .nil))))
     ·refine WC.condF' rfl hc75 ?_
      refine WC.exit ?_
      refine At.thenX ?_
      refine At.loopX ?_
      exact At.hitB (σ := Int) end50 ⟨brk1 h hn57, rfl⟩ (.cons rfl (.cons rfl (.cons rfl .nil)))
   ·rintro end51 _ ⟨rfl, rfl⟩
    replace h := flowK_go hk54
    try dsimp only at h
    refine (show At _ _ _ [(2, Value.pointer (some ⟨p13, 0, none⟩)), (3, vi from17), (4, vi end51)] _ from ?_)
    refine At.inBlockHit ?_
    exact At.join (σ := Int) end51 ⟨some1 h, rfl⟩ (.cons rfl (.cons rfl (.cons rfl .nil)))
  ·rintro end47 _ ⟨rfl, rfl⟩
   replace h := hk49
   try dsimp only at h
   refine (show At _ _ _ [(2, Value.pointer (some ⟨p13, 0, none⟩)), (3, vi from17), (4, vi end47)] _ from ?_)
   refine At.then ?_
   refine WC.seq ?_
   refine WC.region ?_
   refine WL.y (Y.move rfl) rfl ?_
   refine WL.y (Y.move rfl) rfl ?_
   refine WL.y (Y.move rfl) rfl ?_
   refine WL.y (Y.sub_i rfl rfl) rfl ?_
   refine WL.y (Y.build (vals := [(0, vi from17), (1, vi (w64 (end47 - from17)))]) (cells := [vi from17, vi (w64 (end47 - from17))]) (Fits.evalp rfl) (by kernel_rfl)) rfl ?_
   refine WL.store (v := Value.agg (List.toArray [vi from17, vi (w64 (end47 - from17))])) (cells' := [vi from17, vi (w64 (end47 - from17))]) ty39 rfl rfl hb12 rfl (Nat.le_of_ble_eq_true rfl) rfl rfl ?_
   intro wd77 hst78 hb79
   refine WL.nil ?_
   refine At.then ?_
   refine WC.ret ?_
   obtain rfl := some1 h
   have hs80 : Stp [11] (Lg.O0 A) w O14 wd77 := (Stp.trans (Stp.up hst16 rfl) (Stp.up hst78 rfl))
   exact At.res (.inl rfl) rfl (.cell rfl (hb79.runAg 0 [vi from17, vi (w64 (end47 - from17))] ty39 rfl rfl rfl) .nil) ⟨rfl, (Stp.ext hs80 rfl rfl)⟩

theorem c_ref07_Put {A : Nat → Prop} {v0_0 : Value} {a0 : ref07_State} {a1 : UInt64} {w : World} (hs0_0 : Sl Rep.u w A v0_0 a0.L) {r0 : List Int} {r1 : ref07_State} (h : ref07_Put a0 a1 = some (r0, r1)) : Rets Tryd.prog 21 [Value.agg (List.toArray [v0_0, vi a0.W.From, vi a0.W.Size]), vu a1] w (fun v w' => ∃ (u0 : Value) (u1_0 : Value), v = Value.tuple (List.toArray [u0, Value.agg (List.toArray [u1_0, vi r1.W.From, vi r1.W.Size])]) ∧ Ext w w' ∧ Sl Rep.i w' (fun k => w.heap.size ≤ k) u0 r0 ∧ Sl Rep.u w' (fun k => w.heap.size ≤ k) u1_0 r1.L) := by
 unfold ref07_Put at h
 refine Rets.enter Tryd.func21 rfl rfl ?_
 have hf11 : Sl Rep.u w (imm (Lg.O0 A)) v0_0 a0.L := (Sl.start hs0_0)
 refine (show WC _ _ _ _ [(0, Value.agg (List.toArray [v0_0, vi a0.W.From, vi a0.W.Size])), (1, vu a1)] _ from ?_)
 refine WC.seq ?_
 refine WC.region ?_
 have hh15 := h
 obtain ⟨p12, m13, c14, rfl⟩ := hf11.shape
 have h := hh15
 refine WL.box (O := (Lg.O0 A)) 11 [(Value.slice p12 m13 c14), vi a0.W.From, vi a0.W.Size] rfl rfl rfl ?_
 intro p17 O18 wd19 hst20 hb16
 refine WL.y (Y.assign rfl) rfl ?_
 refine WL.alloc (O := O18) 12 [Value.slice none 0 0, vi 0, vi 0] ty41 rfl rfl ?_
 intro p22 O23 wd24 hst25 hb21
 refine WL.nil ?_
 refine At.then ?_
 refine WC.seq ?_
 refine WC.seq ?_
 refine WC.region ?_
 refine WL.y (Y.fieldAddr fo41_0 rfl) rfl ?_
 have hf26 := hb16.st hst25 rfl
 refine WL.y (Y.loadSc ty22 rfl rfl (hf26.cell 0 _ rfl)) rfl ?_
 have hf27 := hf11.mono (imm_st hst20 rfl rfl)
 have hf28 := hf27.mono (imm_st hst25 rfl rfl)
 refine WL.y (Y.len ty22 rfl hf28) rfl ?_
 refine WL.y (Y.eql_i rfl rfl) rfl ?_
 refine WL.nil ?_
 refine At.then ?_
 rcases cnd h with ⟨hc29, h⟩ | ⟨hc29, h⟩
 ·refine WC.condT' rfl hc29 ?_
  refine WC.seq ?_
  refine WC.drawH [] [0, 1, 2, 3, 4, 5, 6, 7] O23 9 fmix rfl (by kernel_rfl) ?_
  intro wd30 hst31
  refine WD.y 0 rfl (by kernel_rfl) (fun _ _ _ => Y.move rfl) rfl ?_
  refine WD.y 2 rfl (by kernel_rfl) (fun wd36 O35 hst37 => have hf38 := hf26.st hst31 rfl; have hf39 := hf38.st hst37 rfl; Y.loadAg ty41 rfl rfl (hf39.cells 0 [(Value.slice p12 m13 c14), vi a0.W.From, vi a0.W.Size] rfl) rfl) rfl ?_
  refine WD.y 3 rfl (by kernel_rfl) (fun _ _ _ => Y.move rfl) rfl ?_
  refine WD.y 4 rfl (by kernel_rfl) (fun _ _ _ => Y.fieldAddr fo41_1 rfl) rfl ?_
  refine WD.y 5 rfl (by kernel_rfl) (fun wd47 O46 hst48 => have hf49 := hf26.st hst31 rfl; have hf50 := hf49.st hst48 rfl; Y.loadAg ty39 rfl rfl (hf50.cells 1 [vi a0.W.From, vi a0.W.Size] rfl) rfl) rfl ?_
  refine WD.heavy 1 rfl (by kernel_rfl) ?_
  obtain ⟨r51, hp52, h⟩ := bnd h
  refine WL.call (vals := [vu a1]) kok34 rfl rfl (c_ref07_row hp52) ?_
  rintro vr57 wd56 ⟨_, rfl, hm55, f54⟩
  obtain ⟨O58, hold59, hnew60, hst61⟩ := adoptE O23 (fun k => if Value.ownBlock vr57 = some k then 13 else 1) hm55
  have hf62 : OwnSl 13 Rep.i 3 O58 wd56 vr57 r51 := RowF.adopt 13 Flat.i f54 hnew60 (fun k hk => if_pos hk)
  refine WL.nil ?_
  refine At.dq (Stp.up hst61 rfl) ?_
  refine WD.heavy 6 rfl (by kernel_rfl) ?_
  have hf63 := hf28.mono (imm_st hst31 rfl rfl)
  have hf64 := hf63.mono (imm_st hst61 rfl rfl)
  obtain ⟨r65, hp66, h⟩ := bnd h
  refine WL.call (vals := [Value.agg (List.toArray [(Value.slice p12 m13 c14), vi a0.W.From, vi a0.W.Size]), vu a1, Value.agg (List.toArray [vi a0.W.From, vi a0.W.Size])]) kok25 rfl rfl (c_ref07_with (A := fun _ => True) (a0 := a0) (a2 := a0.W) (Sl.all hf64) hp66) ?_
  rintro vr71 wd70 ⟨u67, rfl, hm69, f68⟩
  obtain ⟨O72, hold73, hnew74, hst75⟩ := adoptE O58 (fun k => 1) hm69
  have hf76 : Sl Rep.u wd70 (frs O72) u67 r65.L := Sl.adoptF f68 (fun k hk => ⟨hk, rfl⟩) hnew74
  refine WL.nil ?_
  refine At.dq (Stp.up hst75 rfl) ?_
  refine WD.y 7 rfl (by kernel_rfl) (fun _ _ _ => Y.assign rfl) rfl ?_
  refine WD.phase [12] [0, 1, 2, 3, 4, 5, 6, 7, 8] (by kernel_rfl) (by kernel_rfl) ?_
  refine WD.heavy 8 rfl (by kernel_rfl) ?_
  have hh83 := h
  obtain ⟨p80, m81, c82, rfl⟩ := hf76.shape
  have h := hh83
  have hf84 := hb21.st hst31 rfl
  have hf85 := hf84.st hst61 rfl
  have hf86 := hf85.st hst75 rfl
  refine WL.store (v := Value.agg (List.toArray [(Value.slice p80 m81 c82), vi r65.W.From, vi r65.W.Size])) (cells' := [(Value.slice p80 m81 c82), vi r65.W.From, vi r65.W.Size]) ty41 rfl rfl hf86 rfl (Nat.le_of_ble_eq_true rfl) rfl rfl ?_
  intro wd87 hst88 hb89
  refine WL.nil ?_
  refine At.dq (Stp.up hst88 rfl) ?_
  refine WD.done_ (by kernel_rfl) ?_
  refine At.then ?_
  refine WC.ret ?_
  refine At.thenR ?_
  obtain ⟨rfl, rfl⟩ := tup2 h
  have hf90 := hf62.st hst75 rfl rfl rfl
  have hf91 := hf90.st hst88 rfl rfl rfl
  obtain ⟨O92, hst93, hf94⟩ := OwnSl.giveF rfl Flat.i hf91
  have hs95 : Stp [12, 13] (Lg.O0 A) w O92 wd87 := (Stp.trans (Stp.up hst20 rfl) (Stp.trans (Stp.up hst25 rfl) (Stp.trans (Stp.up hst31 rfl) (Stp.trans (Stp.up hst61 rfl) (Stp.trans (Stp.up hst75 rfl) (Stp.trans (Stp.up hst88 rfl) (Stp.up hst93 rfl)))))))
  have hf96 := hf76.mono (frs_st hst88 rfl)
  have hf97 := hf96.mono (frs_st hst93 rfl)
  have hf98 := hb89.st hst93 rfl
  exact At.res (.inl rfl) rfl (.tmp rfl (.cell rfl (hf98.runAg 0 [(Value.slice p80 m81 c82), vi r65.W.From, vi r65.W.Size] ty41 rfl rfl rfl) .nil)) ⟨vr57, (Value.slice p80 m81 c82), rfl, (Stp.ext hs95 rfl rfl), (Sl.outF hf94 hs95 low0), (Sl.outF hf97 hs95 low0)⟩
 ·refine WC.condF' rfl hc29 ?_
  refine WC.skip ?_
  refine At.then ?_
  refine WC.seq ?_
  refine WC.region ?_
  refine WL.y (Y.move rfl) rfl ?_
  refine WL.y (Y.loadAg ty41 rfl rfl (hf26.cells 0 [(Value.slice p12 m13 c14), vi a0.W.From, vi a0.W.Size] rfl) rfl) rfl ?_
  obtain ⟨r99, hp100, h⟩ := bnd h
  refine WL.call (vals := [Value.agg (List.toArray [(Value.slice p12 m13 c14), vi a0.W.From, vi a0.W.Size])]) kok26 rfl rfl (c_ref07_last (A := fun _ => True) (a0 := a0) (Sl.all hf28) hp100) ?_
  rintro vr103 wd102 ⟨rfl, hm101⟩
  obtain ⟨O104, hold105, hnew106, hst107⟩ := adoptE O23 (fun k => 1) hm101
  refine WL.y (Y.xor_u rfl rfl) rfl ?_
  obtain ⟨r108, hp109, h⟩ := bnd h
  refine WL.call (vals := [vu (a1 ^^^ r99)]) kok34 rfl rfl (c_ref07_row hp109) ?_
  rintro vr114 wd113 ⟨_, rfl, hm112, f111⟩
  obtain ⟨O115, hold116, hnew117, hst118⟩ := adoptE O104 (fun k => if Value.ownBlock vr114 = some k then 14 else 1) hm112
  have hf119 : OwnSl 14 Rep.i 3 O115 wd113 vr114 r108 := RowF.adopt 14 Flat.i f111 hnew117 (fun k hk => if_pos hk)
  refine WL.y (Y.assign rfl) rfl ?_
  refine WL.nil ?_
  refine At.then ?_
  refine WC.seq ?_
  refine WC.seq ?_
  refine WC.region ?_
  refine WL.y (Y.move rfl) rfl ?_
  have hf120 := hf26.st hst107 rfl
  have hf121 := hf120.st hst118 rfl
  refine WL.y (Y.loadAg ty41 rfl rfl (hf121.cells 0 [(Value.slice p12 m13 c14), vi a0.W.From, vi a0.W.Size] rfl) rfl) rfl ?_
  have hf122 := hf28.mono (imm_st hst107 rfl rfl)
  have hf123 := hf122.mono (imm_st hst118 rfl rfl)
  obtain ⟨r124, hp125, h⟩ := bnd h
  refine WL.call (vals := [Value.agg (List.toArray [(Value.slice p12 m13 c14), vi a0.W.From, vi a0.W.Size])]) kok26 rfl rfl (c_ref07_last (A := fun _ => True) (a0 := a0) (Sl.all hf123) hp125) ?_
  rintro vr128 wd127 ⟨rfl, hm126⟩
  obtain ⟨O129, hold130, hnew131, hst132⟩ := adoptE O115 (fun k => 1) hm126
  refine WL.y (Y.eql_u rfl rfl) rfl ?_
  refine WL.nil ?_
  refine At.then ?_
  rcases cnd h with ⟨hc133, h⟩ | ⟨hc133, h⟩
  ·refine WC.condT' rfl hc133 ?_
   refine WC.seq ?_
   refine WC.region ?_
   refine WL.buildSlice (O := O129) (R := Rep.i) (vals := [(0, vi 0)]) 15 [vi 0] (xs := [0]) (by decide) ty32 ty3 (by decide) (by decide) (Fits.evalp rfl) (by kernel_rfl) rfl ⟨[vi 0], [], rfl, rfl, rfl⟩ rfl ?_
   intro v134 O136 wd137 hst138 ho135
   have hf139 := hf121.st hst132 rfl
   have hf140 := hf139.st hst138 rfl
   refine WL.y (Y.loadAg ty41 rfl rfl (hf140.cells 0 [(Value.slice p12 m13 c14), vi a0.W.From, vi a0.W.Size] rfl) rfl) rfl ?_
   refine WL.y (Y.move rfl) rfl ?_
   refine WL.y (Y.fieldAddr fo41_1 rfl) rfl ?_
   refine WL.y (Y.loadAg ty39 rfl rfl (hf140.cells 1 [vi a0.W.From, vi a0.W.Size] rfl) rfl) rfl ?_
   have hf141 := hf123.mono (imm_st hst132 rfl rfl)
   have hf142 := hf141.mono (imm_st hst138 rfl rfl)
   obtain ⟨r143, hp144, h⟩ := bnd h
   refine WL.call (vals := [Value.agg (List.toArray [(Value.slice p12 m13 c14), vi a0.W.From, vi a0.W.Size]), vu a1, Value.agg (List.toArray [vi a0.W.From, vi a0.W.Size])]) kok25 rfl rfl (c_ref07_with (A := fun _ => True) (a0 := a0) (a2 := a0.W) (Sl.all hf142) hp144) ?_
   rintro vr149 wd148 ⟨u145, rfl, hm147, f146⟩
   obtain ⟨O150, hold151, hnew152, hst153⟩ := adoptE O136 (fun k => 1) hm147
   have hf154 : Sl Rep.u wd148 (frs O150) u145 r143.L := Sl.adoptF f146 (fun k hk => ⟨hk, rfl⟩) hnew152
   refine WL.y (Y.assign rfl) rfl ?_
   have hh158 := h
   obtain ⟨p155, m156, c157, rfl⟩ := hf154.shape
   have h := hh158
   have hf159 := hb21.st hst107 rfl
   have hf160 := hf159.st hst118 rfl
   have hf161 := hf160.st hst132 rfl
   have hf162 := hf161.st hst138 rfl
   have hf163 := hf162.st hst153 rfl
   refine WL.store (v := Value.agg (List.toArray [(Value.slice p155 m156 c157), vi r143.W.From, vi r143.W.Size])) (cells' := [(Value.slice p155 m156 c157), vi r143.W.From, vi r143.W.Size]) ty41 rfl rfl hf163 rfl (Nat.le_of_ble_eq_true rfl) rfl rfl ?_
   intro wd164 hst165 hb166
   refine WL.nil ?_
   refine At.then ?_
   refine WC.ret ?_
   refine At.thenR ?_
   obtain ⟨rfl, rfl⟩ := tup2 h
   have hf167 := ho135.st hst153 rfl rfl rfl
   have hf168 := hf167.st hst165 rfl rfl rfl
   obtain ⟨O169, hst170, hf171⟩ := OwnSl.giveF rfl Flat.i hf168
   have hs172 : Stp [12, 15] (Lg.O0 A) w O169 wd164 := (Stp.trans (Stp.up hst20 rfl) (Stp.trans (Stp.up hst25 rfl) (Stp.trans (Stp.up hst107 rfl) (Stp.trans (Stp.up hst118 rfl) (Stp.trans (Stp.up hst132 rfl) (Stp.trans (Stp.up hst138 rfl) (Stp.trans (Stp.up hst153 rfl) (Stp.trans (Stp.up hst165 rfl) (Stp.up hst170 rfl)))))))))
   have hf173 := hf154.mono (frs_st hst165 rfl)
   have hf174 := hf173.mono (frs_st hst170 rfl)
   have hf175 := hb166.st hst170 rfl
   exact At.res (.inl rfl) rfl (.tmp rfl (.cell rfl (hf175.runAg 0 [(Value.slice p155 m156 c157), vi r143.W.From, vi r143.W.Size] ty41 rfl rfl rfl) .nil)) ⟨v134, (Value.slice p155 m156 c157), rfl, (Stp.ext hs172 rfl rfl), (Sl.outF hf171 hs172 low0), (Sl.outF hf174 hs172 low0)⟩
  ·refine WC.condF' rfl hc133 ?_
   refine WC.skip ?_
   refine At.then ?_
   refine WC.seq ?_
   refine WC.seq ?_
   refine WC.region ?_
   refine WL.y (Y.move rfl) rfl ?_
   refine WL.y (Y.fieldAddr fo41_1 rfl) rfl ?_
   have hf176 := hf121.st hst132 rfl
   refine WL.y (Y.loadAg ty39 rfl rfl (hf176.cells 1 [vi a0.W.From, vi a0.W.Size] rfl) rfl) rfl ?_
   have hf177 := hf119.st hst132 rfl rfl rfl
   obtain ⟨r178, hp179, h⟩ := bnd h
   refine WL.call (vals := [vr114, Value.agg (List.toArray [vi a0.W.From, vi a0.W.Size])]) kok35 rfl rfl (c_ref07_in (A := fun _ => True) (a1 := a0.W) (hf177.src.sl) hp179) ?_
   rintro vr182 wd181 ⟨rfl, hm180⟩
   obtain ⟨O183, hold184, hnew185, hst186⟩ := adoptE O129 (fun k => 1) hm180
   refine WL.nil ?_
   refine At.then ?_
   rcases cnd h with ⟨hc187, h⟩ | ⟨hc187, h⟩
   ·refine WC.condT' rfl hc187 ?_
    refine WC.seq ?_
    refine WC.drawH [14, 16] [0, 1, 2, 3, 4, 5, 6, 7, 8, 9, 10, 11, 12, 13, 14, 15, 16, 17, 18, 19] O183 21 fmix rfl (by kernel_rfl) ?_
    intro wd188 hst189
    refine WD.y 1 rfl (by kernel_rfl) (fun _ _ _ => Y.move rfl) rfl ?_
    refine WD.y 2 rfl (by kernel_rfl) (fun _ _ _ => Y.fieldAddr fo41_1 rfl) rfl ?_
    refine WD.y 3 rfl (by kernel_rfl) (fun _ _ _ => Y.fieldAddr fo39_0 rfl) rfl ?_
    refine WD.y 4 rfl (by kernel_rfl) (fun wd200 O199 hst201 => have hf202 := hf176.st hst186 rfl; have hf203 := hf202.st hst189 rfl; have hf204 := hf203.st hst201 rfl; Y.loadSc ty3 rfl rfl (hf204.cell 1 _ rfl)) rfl ?_
    refine WD.y 5 rfl (by kernel_rfl) (fun _ _ _ => Y.fieldAddr fo41_1 rfl) rfl ?_
    refine WD.y 6 rfl (by kernel_rfl) (fun _ _ _ => Y.fieldAddr fo39_0 rfl) rfl ?_
    refine WD.y 7 rfl (by kernel_rfl) (fun wd212 O211 hst213 => have hf214 := hf176.st hst186 rfl; have hf215 := hf214.st hst189 rfl; have hf216 := hf215.st hst213 rfl; Y.loadSc ty3 rfl rfl (hf216.cell 1 _ rfl)) rfl ?_
    refine WD.y 8 rfl (by kernel_rfl) (fun _ _ _ => Y.fieldAddr fo41_1 rfl) rfl ?_
    refine WD.y 9 rfl (by kernel_rfl) (fun _ _ _ => Y.fieldAddr fo39_1 rfl) rfl ?_
    refine WD.y 10 rfl (by kernel_rfl) (fun wd224 O223 hst225 => have hf226 := hf176.st hst186 rfl; have hf227 := hf226.st hst189 rfl; have hf228 := hf227.st hst225 rfl; Y.loadSc ty3 rfl rfl (hf228.cell 2 _ rfl)) rfl ?_
    refine WD.y 11 rfl (by kernel_rfl) (fun _ _ _ => Y.add_i rfl rfl) rfl ?_
    obtain ⟨t232, ht232, h⟩ := bnd h
    have hf235 := hf177.st hst186 rfl rfl rfl
    have hf236 := hf235.st hst189 rfl rfl rfl
    obtain ⟨O237, hst238, hf239⟩ := OwnSl.giveF rfl Flat.i hf236
    refine WD.own (Stp.up hst238 rfl) ?_
    obtain ⟨v233, hY240, hf234⟩ := Sl.slice (ρ := [(44, vr114), (47, vi a0.W.From), (54, vi (w64 (a0.W.From + a0.W.Size)))]) (x := (.tmp 44)) (lo := (some (.tmp 47))) (hi := (some (.tmp 54))) ty32 ty3 rfl rfl rfl hf239 ht232
    refine WD.y 12 rfl (by kernel_rfl) (fun _ _ _ => Y.sub (.cons rfl (.cons rfl (.cons rfl .nil))) (hY240 _ _)) rfl ?_
    refine WD.y 14 rfl (by kernel_rfl) (fun wd245 O244 hst246 => have hf247 := hf176.st hst186 rfl; have hf248 := hf247.st hst189 rfl; have hf249 := hf248.st hst238 rfl; have hf250 := hf249.st hst246 rfl; Y.loadAg ty41 rfl rfl (hf250.cells 0 [(Value.slice p12 m13 c14), vi a0.W.From, vi a0.W.Size] rfl) rfl) rfl ?_
    refine WD.y 15 rfl (by kernel_rfl) (fun _ _ _ => Y.move rfl) rfl ?_
    refine WD.y 16 rfl (by kernel_rfl) (fun _ _ _ => Y.fieldAddr fo41_1 rfl) rfl ?_
    refine WD.y 17 rfl (by kernel_rfl) (fun wd258 O257 hst259 => have hf260 := hf176.st hst186 rfl; have hf261 := hf260.st hst189 rfl; have hf262 := hf261.st hst238 rfl; have hf263 := hf262.st hst259 rfl; Y.loadAg ty39 rfl rfl (hf263.cells 1 [vi a0.W.From, vi a0.W.Size] rfl) rfl) rfl ?_
    refine WD.heavy 0 rfl (by kernel_rfl) ?_
    refine WL.buildSlice (O := O237) (R := Rep.i) (vals := [(0, vi 1), (1, vi 0)]) 16 [vi 1, vi 0] (xs := [1, 0]) (by decide) ty32 ty3 (by decide) (by decide) (Fits.evalp rfl) (by kernel_rfl) rfl ⟨[vi 1], [vi 0], rfl, rfl, ⟨[vi 0], [], rfl, rfl, rfl⟩⟩ rfl ?_
    intro v264 O266 wd267 hst268 ho265
    refine WL.nil ?_
    refine At.dq (Stp.up hst268 rfl) ?_
    refine WD.heavy 13 rfl (by kernel_rfl) ?_
    obtain ⟨xs269, hxs269, h⟩ := bnd h
    have hf270 := hf234.mono (frs_st hst268 rfl)
    refine WL.append (by decide) ty32 ty3 rfl (by decide) rfl rfl ho265 (Sl.src (Sl.mono hf270 frs_imm)) hxs269 rfl ?_
    intro v274 O271 wd272 hst273 ho275
    refine WL.nil ?_
    refine At.dq (Stp.up hst273 rfl) ?_
    refine WD.heavy 18 rfl (by kernel_rfl) ?_
    have hf276 := hf123.mono (imm_st hst132 rfl rfl)
    have hf277 := hf276.mono (imm_st hst186 rfl rfl)
    have hf278 := hf277.mono (imm_st hst189 rfl rfl)
    have hf279 := hf278.mono (imm_st hst238 rfl rfl)
    have hf280 := hf279.mono (imm_st hst268 rfl rfl)
    have hf281 := hf280.mono (imm_st hst273 rfl rfl)
    obtain ⟨r282, hp283, h⟩ := bnd h
    refine WL.call (vals := [Value.agg (List.toArray [(Value.slice p12 m13 c14), vi a0.W.From, vi a0.W.Size]), vu a1, Value.agg (List.toArray [vi a0.W.From, vi a0.W.Size])]) kok25 rfl rfl (c_ref07_with (A := fun _ => True) (a0 := a0) (a2 := a0.W) (Sl.all hf281) hp283) ?_
    rintro vr288 wd287 ⟨u284, rfl, hm286, f285⟩
    obtain ⟨O289, hold290, hnew291, hst292⟩ := adoptE O271 (fun k => 1) hm286
    have hf293 : Sl Rep.u wd287 (frs O289) u284 r282.L := Sl.adoptF f285 (fun k hk => ⟨hk, rfl⟩) hnew291
    refine WL.nil ?_
    refine At.dq (Stp.up hst292 rfl) ?_
    refine WD.y 19 rfl (by kernel_rfl) (fun _ _ _ => Y.assign rfl) rfl ?_
    refine WD.phase [12] [0, 1, 2, 3, 4, 5, 6, 7, 8, 9, 10, 11, 12, 13, 14, 15, 16, 17, 18, 19, 20] (by kernel_rfl) (by kernel_rfl) ?_
    refine WD.heavy 20 rfl (by kernel_rfl) ?_
    have hh300 := h
    obtain ⟨p297, m298, c299, rfl⟩ := hf293.shape
    have h := hh300
    have hf301 := hb21.st hst107 rfl
    have hf302 := hf301.st hst118 rfl
    have hf303 := hf302.st hst132 rfl
    have hf304 := hf303.st hst186 rfl
    have hf305 := hf304.st hst189 rfl
    have hf306 := hf305.st hst238 rfl
    have hf307 := hf306.st hst268 rfl
    have hf308 := hf307.st hst273 rfl
    have hf309 := hf308.st hst292 rfl
    refine WL.store (v := Value.agg (List.toArray [(Value.slice p297 m298 c299), vi r282.W.From, vi r282.W.Size])) (cells' := [(Value.slice p297 m298 c299), vi r282.W.From, vi r282.W.Size]) ty41 rfl rfl hf309 rfl (Nat.le_of_ble_eq_true rfl) rfl rfl ?_
    intro wd310 hst311 hb312
    refine WL.nil ?_
    refine At.dq (Stp.up hst311 rfl) ?_
    refine WD.done_ (by kernel_rfl) ?_
    refine At.then ?_
    refine WC.ret ?_
    refine At.thenR ?_
    obtain ⟨rfl, rfl⟩ := tup2 h
    have hf313 := ho275.st hst292 rfl rfl rfl
    have hf314 := hf313.st hst311 rfl rfl rfl
    obtain ⟨O315, hst316, hf317⟩ := OwnSl.giveF rfl Flat.i hf314
    have hs318 : Stp [12, 14, 16] (Lg.O0 A) w O315 wd310 := (Stp.trans (Stp.up hst20 rfl) (Stp.trans (Stp.up hst25 rfl) (Stp.trans (Stp.up hst107 rfl) (Stp.trans (Stp.up hst118 rfl) (Stp.trans (Stp.up hst132 rfl) (Stp.trans (Stp.up hst186 rfl) (Stp.trans (Stp.up hst189 rfl) (Stp.trans (Stp.up hst238 rfl) (Stp.trans (Stp.up hst268 rfl) (Stp.trans (Stp.up hst273 rfl) (Stp.trans (Stp.up hst292 rfl) (Stp.trans (Stp.up hst311 rfl) (Stp.up hst316 rfl)))))))))))))
    have hf319 := hf293.mono (frs_st hst311 rfl)
    have hf320 := hf319.mono (frs_st hst316 rfl)
    have hf321 := hb312.st hst316 rfl
    exact At.res (.inl rfl) rfl (.tmp rfl (.cell rfl (hf321.runAg 0 [(Value.slice p297 m298 c299), vi r282.W.From, vi r282.W.Size] ty41 rfl rfl rfl) .nil)) ⟨v274, (Value.slice p297 m298 c299), rfl, (Stp.ext hs318 rfl rfl), (Sl.outF hf317 hs318 low0), (Sl.outF hf320 hs318 low0)⟩
   ·refine WC.condF' rfl hc187 ?_
    refine WC.skip ?_
    refine At.then ?_
    refine WC.seq ?_
    refine WC.region ?_
    refine WL.y (Y.move rfl) rfl ?_
    have hf322 := hf177.st hst186 rfl rfl rfl
    obtain ⟨r323, hp324, h⟩ := bnd h
    refine WL.call (vals := [vr114]) kok36 rfl rfl (c_ref07_around (A := fun _ => True) (hf322.src.sl) hp324) ?_
    rintro vr327 wd326 ⟨rfl, hm325⟩
    obtain ⟨O328, hold329, hnew330, hst331⟩ := adoptE O183 (fun k => 1) hm325
    refine WL.alloc (O := O328) 17 [vi 0, vi 0] ty39 rfl rfl ?_
    intro p333 O334 wd335 hst336 hb332
    refine WL.store (v := Value.agg (List.toArray [vi r323.From, vi r323.Size])) (cells' := [vi r323.From, vi r323.Size]) ty39 rfl rfl hb332 rfl (Nat.le_of_ble_eq_true rfl) rfl rfl ?_
    intro wd337 hst338 hb339
    refine WL.nil ?_
    refine At.then ?_
    refine WC.seq ?_
    refine WC.region ?_
    refine WL.y (Y.fieldAddr fo39_0 rfl) rfl ?_
    refine WL.y (Y.loadSc ty3 rfl rfl (hb339.cell 0 _ rfl)) rfl ?_
    refine WL.y (Y.conv_iu ty3.u ty23.u rfl) rfl ?_
    obtain ⟨⟨r340, r341⟩, hp342, h⟩ := bnd h
    refine WL.call (vals := [vu (toU64 r323.From), vi 5]) kok37 rfl rfl (c_ref01_Row hp342) ?_
    rintro vr347 wd346 ⟨u343, rfl, hm345, f344⟩
    obtain ⟨O348, hold349, hnew350, hst351⟩ := adoptE O334 (fun k => if Value.ownBlock u343 = some k then 18 else 1) hm345
    have hf352 : OwnSl 18 Rep.i 3 O348 wd346 u343 r340 := RowF.adopt 18 Flat.i f344 hnew350 (fun k hk => if_pos hk)
    refine WL.y (Y.move rfl) rfl ?_
    refine WL.y (Y.extract rfl rfl) rfl ?_
    refine WL.y (Y.extract rfl rfl) rfl ?_
    refine WL.y (Y.assign rfl) rfl ?_
    refine WL.y (Y.assign rfl) rfl ?_
    refine WL.nil ?_
    refine At.then ?_
    refine WC.seq ?_
    refine WC.region ?_
    refine WL.y (Y.fieldAddr fo39_1 rfl) rfl ?_
    have hf353 := hb339.st hst351 rfl
    refine WL.y (Y.loadSc ty3 rfl rfl (hf353.cell 1 _ rfl)) rfl ?_
    refine WL.y (Y.sub_i rfl rfl) rfl ?_
    refine WL.y (Y.conv_iu ty3.u ty23.u rfl) rfl ?_
    obtain ⟨⟨r354, r355⟩, hp356, h⟩ := bnd h
    refine WL.call (vals := [vu (toU64 (w64 (r323.Size - 1))), vi 6]) kok37 rfl rfl (c_ref01_Row hp356) ?_
    rintro vr361 wd360 ⟨u357, rfl, hm359, f358⟩
    obtain ⟨O362, hold363, hnew364, hst365⟩ := adoptE O348 (fun k => if Value.ownBlock u357 = some k then 19 else 1) hm359
    have hf366 : OwnSl 19 Rep.i 3 O362 wd360 u357 r354 := RowF.adopt 19 Flat.i f358 hnew364 (fun k hk => if_pos hk)
    refine WL.y (Y.move rfl) rfl ?_
    refine WL.y (Y.extract rfl rfl) rfl ?_
    refine WL.y (Y.extract rfl rfl) rfl ?_
    refine WL.y (Y.assign rfl) rfl ?_
    refine WL.y (Y.assign rfl) rfl ?_
    refine WL.nil ?_
    refine At.then ?_
    refine WC.seq ?_
    refine WC.region ?_
    refine WL.buildSlice (O := O362) (R := Rep.i) (vals := [(0, vi 1), (1, vi 1)]) 20 [vi 1, vi 1] (xs := [1, 1]) (by decide) ty32 ty3 (by decide) (by decide) (Fits.evalp rfl) (by kernel_rfl) rfl ⟨[vi 1], [vi 1], rfl, rfl, ⟨[vi 1], [], rfl, rfl, rfl⟩⟩ rfl ?_
    intro v367 O369 wd370 hst371 ho368
    refine WL.y (Y.move rfl) rfl ?_
    obtain ⟨xs372, hxs372, h⟩ := bnd h
    have hf373 := hf352.st hst365 rfl rfl rfl
    have hf374 := hf373.st hst371 rfl rfl rfl
    refine WL.append (by decide) ty32 ty3 rfl (by decide) rfl rfl ho368 hf374.src hxs372 rfl ?_
    intro v378 O375 wd376 hst377 ho379
    refine WL.y (Y.assign rfl) rfl ?_
    refine WL.nil ?_
    refine At.then ?_
    refine WC.seq ?_
    refine WC.region ?_
    refine WL.y (Y.move rfl) rfl ?_
    refine WL.y (Y.move rfl) rfl ?_
    obtain ⟨xs380, hxs380, h⟩ := bnd h
    have hf381 := hf366.st hst371 rfl rfl rfl
    have hf382 := hf381.st hst377 rfl rfl rfl
    refine WL.append (by decide) ty32 ty3 rfl (by decide) rfl rfl ho379 hf382.src hxs380 rfl ?_
    intro v386 O383 wd384 hst385 ho387
    refine WL.y (Y.assign rfl) rfl ?_
    refine WL.nil ?_
    refine At.then ?_
    refine WC.seq ?_
    refine WC.drawH [14, 20] [0, 1, 2, 3, 4, 5, 6, 7, 8, 9, 10, 11, 12, 13, 14, 15] O383 17 fmix rfl (by kernel_rfl) ?_
    intro wd388 hst389
    refine WD.y 0 rfl (by kernel_rfl) (fun _ _ _ => Y.move rfl) rfl ?_
    refine WD.y 1 rfl (by kernel_rfl) (fun _ _ _ => Y.move rfl) rfl ?_
    refine WD.y 2 rfl (by kernel_rfl) (fun _ _ _ => Y.fieldAddr fo39_0 rfl) rfl ?_
    refine WD.y 3 rfl (by kernel_rfl) (fun wd400 O399 hst401 => have hf402 := hf353.st hst365 rfl; have hf403 := hf402.st hst371 rfl; have hf404 := hf403.st hst377 rfl; have hf405 := hf404.st hst385 rfl; have hf406 := hf405.st hst389 rfl; have hf407 := hf406.st hst401 rfl; Y.loadSc ty3 rfl rfl (hf407.cell 0 _ rfl)) rfl ?_
    refine WD.y 4 rfl (by kernel_rfl) (fun _ _ _ => Y.fieldAddr fo39_0 rfl) rfl ?_
    refine WD.y 5 rfl (by kernel_rfl) (fun wd412 O411 hst413 => have hf414 := hf353.st hst365 rfl; have hf415 := hf414.st hst371 rfl; have hf416 := hf415.st hst377 rfl; have hf417 := hf416.st hst385 rfl; have hf418 := hf417.st hst389 rfl; have hf419 := hf418.st hst413 rfl; Y.loadSc ty3 rfl rfl (hf419.cell 0 _ rfl)) rfl ?_
    refine WD.y 6 rfl (by kernel_rfl) (fun _ _ _ => Y.fieldAddr fo39_1 rfl) rfl ?_
    refine WD.y 7 rfl (by kernel_rfl) (fun wd424 O423 hst425 => have hf426 := hf353.st hst365 rfl; have hf427 := hf426.st hst371 rfl; have hf428 := hf427.st hst377 rfl; have hf429 := hf428.st hst385 rfl; have hf430 := hf429.st hst389 rfl; have hf431 := hf430.st hst425 rfl; Y.loadSc ty3 rfl rfl (hf431.cell 1 _ rfl)) rfl ?_
    refine WD.y 8 rfl (by kernel_rfl) (fun _ _ _ => Y.add_i rfl rfl) rfl ?_
    obtain ⟨t435, ht435, h⟩ := bnd h
    have hf438 := hf322.st hst331 rfl rfl rfl
    have hf439 := hf438.st hst336 rfl rfl rfl
    have hf440 := hf439.st hst338 rfl rfl rfl
    have hf441 := hf440.st hst351 rfl rfl rfl
    have hf442 := hf441.st hst365 rfl rfl rfl
    have hf443 := hf442.st hst371 rfl rfl rfl
    have hf444 := hf443.st hst377 rfl rfl rfl
    have hf445 := hf444.st hst385 rfl rfl rfl
    have hf446 := hf445.st hst389 rfl rfl rfl
    obtain ⟨O447, hst448, hf449⟩ := OwnSl.giveF rfl Flat.i hf446
    refine WD.own (Stp.up hst448 rfl) ?_
    obtain ⟨v436, hY450, hf437⟩ := Sl.slice (ρ := [(86, vr114), (88, vi r323.From), (93, vi (w64 (r323.From + r323.Size)))]) (x := (.tmp 86)) (lo := (some (.tmp 88))) (hi := (some (.tmp 93))) ty32 ty3 rfl rfl rfl hf449 ht435
    refine WD.y 9 rfl (by kernel_rfl) (fun _ _ _ => Y.sub (.cons rfl (.cons rfl (.cons rfl .nil))) (hY450 _ _)) rfl ?_
    refine WD.y 11 rfl (by kernel_rfl) (fun wd455 O454 hst456 => have hf457 := hf176.st hst186 rfl; have hf458 := hf457.st hst331 rfl; have hf459 := hf458.st hst336 rfl; have hf460 := hf459.st hst338 rfl; have hf461 := hf460.st hst351 rfl; have hf462 := hf461.st hst365 rfl; have hf463 := hf462.st hst371 rfl; have hf464 := hf463.st hst377 rfl; have hf465 := hf464.st hst385 rfl; have hf466 := hf465.st hst389 rfl; have hf467 := hf466.st hst448 rfl; have hf468 := hf467.st hst456 rfl; Y.loadAg ty41 rfl rfl (hf468.cells 0 [(Value.slice p12 m13 c14), vi a0.W.From, vi a0.W.Size] rfl) rfl) rfl ?_
    refine WD.y 12 rfl (by kernel_rfl) (fun _ _ _ => Y.move rfl) rfl ?_
    refine WD.y 13 rfl (by kernel_rfl) (fun wd473 O472 hst474 => have hf475 := hf353.st hst365 rfl; have hf476 := hf475.st hst371 rfl; have hf477 := hf476.st hst377 rfl; have hf478 := hf477.st hst385 rfl; have hf479 := hf478.st hst389 rfl; have hf480 := hf479.st hst448 rfl; have hf481 := hf480.st hst474 rfl; Y.loadAg ty39 rfl rfl (hf481.cells 0 [vi r323.From, vi r323.Size] rfl) rfl) rfl ?_
    refine WD.heavy 10 rfl (by kernel_rfl) ?_
    obtain ⟨xs482, hxs482, h⟩ := bnd h
    have hf483 := ho387.st hst389 rfl rfl rfl
    have hf484 := hf483.st hst448 rfl rfl rfl
    refine WL.append (by decide) ty32 ty3 rfl (by decide) rfl rfl hf484 (Sl.src (Sl.mono hf437 frs_imm)) hxs482 rfl ?_
    intro v488 O485 wd486 hst487 ho489
    refine WL.nil ?_
    refine At.dq (Stp.up hst487 rfl) ?_
    refine WD.heavy 14 rfl (by kernel_rfl) ?_
    have hf490 := hf123.mono (imm_st hst132 rfl rfl)
    have hf491 := hf490.mono (imm_st hst186 rfl rfl)
    have hf492 := hf491.mono (imm_st hst331 rfl rfl)
    have hf493 := hf492.mono (imm_st hst336 rfl rfl)
    have hf494 := hf493.mono (imm_st hst338 rfl rfl)
    have hf495 := hf494.mono (imm_st hst351 rfl rfl)
    have hf496 := hf495.mono (imm_st hst365 rfl rfl)
    have hf497 := hf496.mono (imm_st hst371 rfl rfl)
    have hf498 := hf497.mono (imm_st hst377 rfl rfl)
    have hf499 := hf498.mono (imm_st hst385 rfl rfl)
    have hf500 := hf499.mono (imm_st hst389 rfl rfl)
    have hf501 := hf500.mono (imm_st hst448 rfl rfl)
    have hf502 := hf501.mono (imm_st hst487 rfl rfl)
    obtain ⟨r503, hp504, h⟩ := bnd h
    refine WL.call (vals := [Value.agg (List.toArray [(Value.slice p12 m13 c14), vi a0.W.From, vi a0.W.Size]), vu a1, Value.agg (List.toArray [vi r323.From, vi r323.Size])]) kok25 rfl rfl (c_ref07_with (A := fun _ => True) (a0 := a0) (a2 := r323) (Sl.all hf502) hp504) ?_
    rintro vr509 wd508 ⟨u505, rfl, hm507, f506⟩
    obtain ⟨O510, hold511, hnew512, hst513⟩ := adoptE O485 (fun k => 1) hm507
    have hf514 : Sl Rep.u wd508 (frs O510) u505 r503.L := Sl.adoptF f506 (fun k hk => ⟨hk, rfl⟩) hnew512
    refine WL.nil ?_
    refine At.dq (Stp.up hst513 rfl) ?_
    refine WD.y 15 rfl (by kernel_rfl) (fun _ _ _ => Y.assign rfl) rfl ?_
    refine WD.phase [12] [0, 1, 2, 3, 4, 5, 6, 7, 8, 9, 10, 11, 12, 13, 14, 15, 16] (by kernel_rfl) (by kernel_rfl) ?_
    refine WD.heavy 16 rfl (by kernel_rfl) ?_
    have hh521 := h
    obtain ⟨p518, m519, c520, rfl⟩ := hf514.shape
    have h := hh521
    have hf522 := hb21.st hst107 rfl
    have hf523 := hf522.st hst118 rfl
    have hf524 := hf523.st hst132 rfl
    have hf525 := hf524.st hst186 rfl
    have hf526 := hf525.st hst331 rfl
    have hf527 := hf526.st hst336 rfl
    have hf528 := hf527.st hst338 rfl
    have hf529 := hf528.st hst351 rfl
    have hf530 := hf529.st hst365 rfl
    have hf531 := hf530.st hst371 rfl
    have hf532 := hf531.st hst377 rfl
    have hf533 := hf532.st hst385 rfl
    have hf534 := hf533.st hst389 rfl
    have hf535 := hf534.st hst448 rfl
    have hf536 := hf535.st hst487 rfl
    have hf537 := hf536.st hst513 rfl
    refine WL.store (v := Value.agg (List.toArray [(Value.slice p518 m519 c520), vi r503.W.From, vi r503.W.Size])) (cells' := [(Value.slice p518 m519 c520), vi r503.W.From, vi r503.W.Size]) ty41 rfl rfl hf537 rfl (Nat.le_of_ble_eq_true rfl) rfl rfl ?_
    intro wd538 hst539 hb540
    refine WL.nil ?_
    refine At.dq (Stp.up hst539 rfl) ?_
    refine WD.done_ (by kernel_rfl) ?_
    refine At.then ?_
    refine WC.ret ?_
    obtain ⟨rfl, rfl⟩ := tup2 h
    have hf541 := ho489.st hst513 rfl rfl rfl
    have hf542 := hf541.st hst539 rfl rfl rfl
    obtain ⟨O543, hst544, hf545⟩ := OwnSl.giveF rfl Flat.i hf542
    have hs546 : Stp [12, 14, 17, 20] (Lg.O0 A) w O543 wd538 := (Stp.trans (Stp.up hst20 rfl) (Stp.trans (Stp.up hst25 rfl) (Stp.trans (Stp.up hst107 rfl) (Stp.trans (Stp.up hst118 rfl) (Stp.trans (Stp.up hst132 rfl) (Stp.trans (Stp.up hst186 rfl) (Stp.trans (Stp.up hst331 rfl) (Stp.trans (Stp.up hst336 rfl) (Stp.trans (Stp.up hst338 rfl) (Stp.trans (Stp.up hst351 rfl) (Stp.trans (Stp.up hst365 rfl) (Stp.trans (Stp.up hst371 rfl) (Stp.trans (Stp.up hst377 rfl) (Stp.trans (Stp.up hst385 rfl) (Stp.trans (Stp.up hst389 rfl) (Stp.trans (Stp.up hst448 rfl) (Stp.trans (Stp.up hst487 rfl) (Stp.trans (Stp.up hst513 rfl) (Stp.trans (Stp.up hst539 rfl) (Stp.up hst544 rfl))))))))))))))))))))
    have hf547 := hf514.mono (frs_st hst539 rfl)
    have hf548 := hf547.mono (frs_st hst544 rfl)
    have hf549 := hb540.st hst544 rfl
    exact At.res (.inl rfl) rfl (.tmp rfl (.cell rfl (hf549.runAg 0 [(Value.slice p518 m519 c520), vi r503.W.From, vi r503.W.Size] ty41 rfl rfl rfl) .nil)) ⟨v488, (Value.slice p518 m519 c520), rfl, (Stp.ext hs546 rfl rfl), (Sl.outF hf545 hs546 low0), (Sl.outF hf548 hs546 low0)⟩

theorem c_law07_XorRows {A : Nat → Prop} {a0 : List UInt64} {v0 : Value} {a1 : UInt64} {w : World} (hs0 : Sl Rep.u w A v0 a0) (hG0 : CellsAt w 0 0 [vi 0, vi 0]) (hGA0 : A 0) (hG1 : CellsAt w 1 0 (gdat1.map vb)) (hGA1 : A 1) {r0 : Bool} (h : law07_XorRows a0 a1 = some r0) : Rets Tryd.prog 5 [v0, vu a1] w (fun v w' => v = Value.bool r0 ∧ Ext w w') := by
 unfold law07_XorRows at h
 refine Rets.enter Tryd.func5 rfl rfl ?_
 have hf11 : Sl Rep.u w (imm (Lg.O0 A)) v0 a0 := (Sl.start hs0)
 have hG12 : CAt [0, 1] (Lg.O0 A) w 0 0 [vi 0, vi 0] := CAt.glob hG0 (if_pos hGA0)
 have hG13 : CAt [0, 1] (Lg.O0 A) w 1 0 (gdat1.map vb) := CAt.glob hG1 (if_pos hGA1)
 refine (show WC _ _ _ _ [(0, v0), (1, vu a1)] _ from ?_)
 refine WC.seq ?_
 refine WC.region ?_
 refine WL.y (Y.assign rfl) rfl ?_
 refine WL.nil ?_
 refine At.then ?_
 refine WC.seq ?_
 refine WC.seq ?_
 refine WC.region ?_
 obtain ⟨r14, hp15, h⟩ := bnd h
 refine WL.call (vals := []) kok6 rfl rfl (c_law07_awake (A := fun _ => True) hG12.at_ trivial hG13.at_ trivial hp15) ?_
 rintro vr18 wd17 ⟨rfl, hm16⟩
 obtain ⟨O19, hold20, hnew21, hst22⟩ := adoptE (Lg.O0 A) (fun k => 1) hm16
 refine WL.y (Y.not rfl) rfl ?_
 refine WL.nil ?_
 refine At.then ?_
 rcases cnd h with ⟨hc23, h⟩ | ⟨hc23, h⟩
 ·refine WC.condT' rfl hc23 ?_
  refine WC.seq ?_
  refine WC.region ?_
  refine WL.y (Y.assign rfl) rfl ?_
  refine WL.nil ?_
  refine At.then ?_
  refine WC.ret ?_
  refine At.thenR ?_
  obtain rfl := some1 h
  have hs24 : Stp [] (Lg.O0 A) w O19 wd17 := (Stp.up hst22 rfl)
  exact At.res (.inl rfl) rfl (.tmp rfl .nil) ⟨rfl, (Stp.ext hs24 rfl rfl)⟩
 ·refine WC.condF' rfl hc23 ?_
  refine WC.skip ?_
  refine At.then ?_
  refine WC.seq ?_
  refine WC.seq ?_
  refine WC.region ?_
  refine WL.y (Y.move rfl) rfl ?_
  have hf25 := hf11.mono (imm_st hst22 rfl rfl)
  refine WL.y (Y.len ty22 rfl hf25) rfl ?_
  refine WL.y (Y.gtr_i rfl rfl) rfl ?_
  refine WL.nil ?_
  refine At.then ?_
  rcases cnd h with ⟨hc26, h⟩ | ⟨hc26, h⟩
  ·refine WC.condT' rfl hc26 ?_
   refine WC.seq ?_
   refine WC.region ?_
   refine WL.y (Y.assign rfl) rfl ?_
   refine WL.nil ?_
   refine At.then ?_
   refine WC.ret ?_
   refine At.thenR ?_
   obtain rfl := some1 h
   have hs27 : Stp [] (Lg.O0 A) w O19 wd17 := (Stp.up hst22 rfl)
   exact At.res (.inl rfl) rfl (.tmp rfl .nil) ⟨rfl, (Stp.ext hs27 rfl rfl)⟩
  ·refine WC.condF' rfl hc26 ?_
   refine WC.skip ?_
   refine At.then ?_
   refine WC.seq ?_
   refine WC.region ?_
   obtain ⟨r28, hp29, h⟩ := bnd h
   refine WL.call (vals := []) kok11 rfl rfl (c_bitio_NewWriter hp29) ?_
   rintro vr37 wd36 ⟨p30, u31, rfl, hm35, f32, f33, f34⟩
   obtain ⟨O38, hold39, hnew40, hst41⟩ := adoptE O19 (fun k => if k = p30 then 11 else if Value.ownBlock u31 = some k then 12 else 1) hm35
   have hf43 : OwnSl 12 Rep.b 5 O38 wd36 u31 r28.b := RowF.adopt 12 Flat.b f33 hnew40 (fun k hk => (if_neg (fun (e : k = p30) => f34 (e ▸ hk))).trans (if_pos hk))
   have hb42 : Blk 11 O38 wd36 p30 64 [u31, vi r28.n] := Blk.new f32 hnew40 (if_pos rfl)
   refine WL.y (Y.assign rfl) rfl ?_
   refine WL.nil ?_
   refine At.then ?_
   refine WC.seq ?_
   refine WC.region ?_
   obtain ⟨r44, hp45, h⟩ := bnd h
   refine WL.call (vals := []) kok10 rfl rfl (c_xor_NewRow hp45) ?_
   rintro vr50 wd49 ⟨p46, rfl, hm48, f47⟩
   obtain ⟨O51, hold52, hnew53, hst54⟩ := adoptE O38 (fun k => if k = p46 then 13 else 1) hm48
   have hb55 : Blk 13 O51 wd49 p46 62 [vi r44.n, vu r44.last, vi r44.win.ahead, vi r44.win.size] := Blk.new f47 hnew53 (if_pos rfl)
   refine WL.y (Y.assign rfl) rfl ?_
   refine WL.nil ?_
   refine At.then ?_
   refine WC.seq ?_
   refine WC.region ?_
   refine WL.y (Y.build (vals := []) (cells := [Value.slice none 0 0, vi 0, vi 0]) (Fits.evalp rfl) (by kernel_rfl)) rfl ?_
   refine WL.alloc (O := O51) 14 [Value.slice none 0 0, vi 0, vi 0] ty41 rfl rfl ?_
   intro p57 O58 wd59 hst60 hb56
   refine WL.store (v := Value.agg (List.toArray [Value.slice none 0 0, vi 0, vi 0])) (cells' := [Value.slice none 0 0, vi 0, vi 0]) ty41 rfl rfl hb56 rfl (Nat.le_of_ble_eq_true rfl) rfl rfl ?_
   intro wd61 hst62 hb63
   refine WL.nil ?_
   refine At.then ?_
   refine WC.seq ?_
   refine WC.region ?_
   refine WL.y (Y.assign rfl) rfl ?_
   refine WL.nil ?_
   refine At.then ?_
   refine WC.seq ?_
   refine WC.seq ?_
   refine WC.region ?_
   refine WL.y (Y.assign rfl) rfl ?_
   refine WL.nil ?_
   refine At.then ?_
   obtain ⟨p75, h, hk76⟩ := flow1 h
   refine WC.join (σ := (List UInt8 × Int × List Int × Own × Value × Value)) (fun x w' => p75 = .go (x.1, x.2.1, x.2.2.1) ∧ Stp [11, 12, 13, 14, 15, 16, 17, 18, 19, 20, 1001, 1002, 1003, 1004, 1005] O58 wd61 x.2.2.2.1 w' ∧ OwnSl 1008 Rep.b 5 x.2.2.2.1 w' x.2.2.2.2.1 x.1 ∧ Blk 11 x.2.2.2.1 w' p30 64 [x.2.2.2.2.1, vi x.2.1] ∧ OwnSl 1009 Rep.i 3 x.2.2.2.1 w' x.2.2.2.2.2 x.2.2.1) (fun x => [(0, v0), (5, Value.pointer (some ⟨p30, 0, none⟩)), (8, x.2.2.2.2.2)]) ?_ ?_
   ·refine WC.block ?_
    obtain ⟨p111, h, hk113⟩ := flow1 h
    obtain ⟨k112, h⟩ := loop_some h
    refine WC.joinB 0 (σ := (List UInt8 × Int × List Int × Own × Value × Value)) (fun x w' => p111 = .go (x.1, x.2.1, x.2.2.1) ∧ Stp [11, 12, 13, 14, 15, 16, 17, 18, 19, 20, 1001, 1002, 1003] O58 wd61 x.2.2.2.1 w' ∧ OwnSl 1004 Rep.b 5 x.2.2.2.1 w' x.2.2.2.2.1 x.1 ∧ Blk 11 x.2.2.2.1 w' p30 64 [x.2.2.2.2.1, vi x.2.1] ∧ OwnSl 1005 Rep.i 3 x.2.2.2.1 w' x.2.2.2.2.2 x.2.2.1) (fun x => [(0, v0), (5, Value.pointer (some ⟨p30, 0, none⟩)), (8, x.2.2.2.2.2)]) ?_ ?_
    ·have hf114 := hf43.st hst54 rfl rfl rfl
     have hf115 := hf114.st hst60 rfl rfl rfl
     have hf116 := hf115.st hst62 rfl rfl rfl
     obtain ⟨O117, hst118, ho119⟩ := OwnSl.rlb 1002 rfl hf116
     have hf120 := hb42.st hst54 rfl
     have hf121 := hf120.st hst60 rfl
     have hf122 := hf121.st hst62 rfl
     have hf123 := hf122.st hst118 rfl
     have hf124 := hb55.st hst60 rfl
     have hf125 := hf124.st hst62 rfl
     have hf126 := hf125.st hst118 rfl
     have hf127 := hb63.st hst118 rfl
     refine WC.loop (σ := (List UInt8 × Int × Int × UInt64 × Int × Int × List UInt64 × Int × Int × List Int × Int × Own × Value × Value × Value)) (fun x k w' => loopN k (law07_XorRows_lp1 a0 a1) (x.1, x.2.1, x.2.2.1, x.2.2.2.1, x.2.2.2.2.1, x.2.2.2.2.2.1, x.2.2.2.2.2.2.1, x.2.2.2.2.2.2.2.1, x.2.2.2.2.2.2.2.2.1, x.2.2.2.2.2.2.2.2.2.1, x.2.2.2.2.2.2.2.2.2.2.1) = some p111 ∧ Stp [11, 12, 13, 14, 15, 16, 17, 18, 19, 20, 1001, 1002, 1003] O58 wd61 x.2.2.2.2.2.2.2.2.2.2.2.1 w' ∧ OwnSl 1002 Rep.b 5 x.2.2.2.2.2.2.2.2.2.2.2.1 w' x.2.2.2.2.2.2.2.2.2.2.2.2.1 x.1 ∧ Blk 11 x.2.2.2.2.2.2.2.2.2.2.2.1 w' p30 64 [x.2.2.2.2.2.2.2.2.2.2.2.2.1, vi x.2.1] ∧ Blk 13 x.2.2.2.2.2.2.2.2.2.2.2.1 w' p46 62 [vi x.2.2.1, vu x.2.2.2.1, vi x.2.2.2.2.1, vi x.2.2.2.2.2.1] ∧ Sl Rep.u w' (frs x.2.2.2.2.2.2.2.2.2.2.2.1) x.2.2.2.2.2.2.2.2.2.2.2.2.2.1 x.2.2.2.2.2.2.1 ∧ Blk 14 x.2.2.2.2.2.2.2.2.2.2.2.1 w' p57 41 [x.2.2.2.2.2.2.2.2.2.2.2.2.2.1, vi x.2.2.2.2.2.2.2.1, vi x.2.2.2.2.2.2.2.2.1] ∧ OwnSl 1003 Rep.i 3 x.2.2.2.2.2.2.2.2.2.2.2.1 w' x.2.2.2.2.2.2.2.2.2.2.2.2.2.2 x.2.2.2.2.2.2.2.2.2.1) (fun x => [(0, v0), (1, vu a1), (5, Value.pointer (some ⟨p30, 0, none⟩)), (6, Value.pointer (some ⟨p46, 0, none⟩)), (7, Value.pointer (some ⟨p57, 0, none⟩)), (8, x.2.2.2.2.2.2.2.2.2.2.2.2.2.2), (9, vi x.2.2.2.2.2.2.2.2.2.2.1)]) (r28.b, r28.n, r44.n, r44.last, r44.win.ahead, r44.win.size, [], 0, 0, [], 0, O117, u31, Value.slice none 0 0, Value.slice none 0 0) k112 (.cons rfl (.cons rfl (.cons rfl (.cons rfl (.cons rfl (.cons rfl (.cons rfl .nil))))))) ⟨h, (Stp.up hst118 rfl), ho119, hf123, hf126, (Or.inl ⟨rfl, rfl⟩), hf127, (OwnSl.nil 1003 Rep.i 3)⟩ ?_
     rintro ⟨c78, c81, c83, c84, c85, c86, c88, c91, c92, all93, i96, O97, v79, v89, v94⟩ k112 wd98 ⟨h, hst99, hf80, hb77, hb82, hf90, hb87, hf95⟩
     obtain ⟨j128, q129, rfl, h, hn130⟩ := rnd1 h
     unfold law07_XorRows_lp1 at h
     try dsimp only at h hst99 hf80 hb77 hb82 hf90 hb87 hf95
     refine (show WC _ _ _ _ [(0, v0), (1, vu a1), (5, Value.pointer (some ⟨p30, 0, none⟩)), (6, Value.pointer (some ⟨p46, 0, none⟩)), (7, Value.pointer (some ⟨p57, 0, none⟩)), (8, v94), (9, vi i96)] _ from ?_)
     refine WC.seq ?_
     refine WC.seq ?_
     refine WC.region ?_
     refine WL.y (Y.move rfl) rfl ?_
     refine WL.y (Y.move rfl) rfl ?_
     have hf131 := hf25.mono (imm_st hst41 rfl rfl)
     have hf132 := hf131.mono (imm_st hst54 rfl rfl)
     have hf133 := hf132.mono (imm_st hst60 rfl rfl)
     have hf134 := hf133.mono (imm_st hst62 rfl rfl)
     have hf135 := hf134.mono (imm_st hst99 rfl rfl)
     refine WL.y (Y.len ty22 rfl hf135) rfl ?_
     refine WL.y (Y.lss_i rfl rfl) rfl ?_
     refine WL.nil ?_
     refine At.then ?_
     rcases cnd h with ⟨hc136, h⟩ | ⟨hc136, h⟩
     ·refine WC.condT' rfl hc136 ?_
      refine WC.skip ?_
      refine At.then ?_
      refine WC.seq ?_
      refine WC.block ?_
      refine WC.seq ?_
      refine WC.region ?_
      refine WL.y (Y.move rfl) rfl ?_
      obtain ⟨r137, hp138, h⟩ := bnd h
      refine WL.call (vals := [Value.pointer (some ⟨p46, 0, none⟩)]) kok20 rfl rfl (c_xor_Row_Clone (A := fun _ => True) (a0 := (xor_Row.mk c83 c84 (xor_window.mk c85 c86))) hb82.blk trivial hp138) ?_
      rintro vr143 wd142 ⟨p139, rfl, hm141, f140⟩
      obtain ⟨O144, hold145, hnew146, hst147⟩ := adoptE O97 (fun k => if k = p139 then 15 else 1) hm141
      have hb148 : Blk 15 O144 wd142 p139 62 [vi r137.n, vu r137.last, vi r137.win.ahead, vi r137.win.size] := Blk.new f140 hnew146 (if_pos rfl)
      refine WL.y (Y.assign rfl) rfl ?_
      refine WL.nil ?_
      refine At.then ?_
      refine WC.seq ?_
      refine WC.region ?_
      refine WL.y (Y.move rfl) rfl ?_
      obtain ⟨r149, hp150, h⟩ := bnd h
      refine WL.call (vals := []) kok11 rfl rfl (c_bitio_NewWriter hp150) ?_
      rintro vr158 wd157 ⟨p151, u152, rfl, hm156, f153, f154, f155⟩
      obtain ⟨O159, hold160, hnew161, hst162⟩ := adoptE O144 (fun k => if k = p151 then 16 else if Value.ownBlock u152 = some k then 17 else 1) hm156
      have hf164 : OwnSl 17 Rep.b 5 O159 wd157 u152 r149.b := RowF.adopt 17 Flat.b f154 hnew161 (fun k hk => (if_neg (fun (e : k = p151) => f155 (e ▸ hk))).trans (if_pos hk))
      have hb163 : Blk 16 O159 wd157 p151 64 [u152, vi r149.n] := Blk.new f153 hnew161 (if_pos rfl)
      refine WL.y (Y.move rfl) rfl ?_
      have hf165 := hb148.st hst162 rfl
      have hf166 := hG12.st hst22 rfl
      have hf167 := hf166.st hst41 rfl
      have hf168 := hf167.st hst54 rfl
      have hf169 := hf168.st hst60 rfl
      have hf170 := hf169.st hst62 rfl
      have hf171 := hf170.st hst99 rfl
      have hf172 := hf171.st hst147 rfl
      have hf173 := hf172.st hst162 rfl
      have hf174 := hG13.st hst22 rfl
      have hf175 := hf174.st hst41 rfl
      have hf176 := hf175.st hst54 rfl
      have hf177 := hf176.st hst60 rfl
      have hf178 := hf177.st hst62 rfl
      have hf179 := hf178.st hst99 rfl
      have hf180 := hf179.st hst147 rfl
      have hf181 := hf180.st hst162 rfl
      obtain ⟨⟨r182, r183⟩, hp184, h⟩ := bnd h
      refine WL.call (vals := [Value.pointer (some ⟨p139, 0, none⟩), Value.pointer (some ⟨p151, 0, none⟩), vu a1]) kok16 rfl rfl (c_xor_Row_Put (A := out [15, 16, 17] O159) (a0 := r137) (a1 := r149) hf165.blk hf164.row hb163.blk hf173.at_ (CAt.inO hf173 rfl rfl) hf181.at_ (CAt.inO hf181 rfl rfl) (ne_blk hf165.lab hb163.lab rfl) (ne_lab hf164 hf165.lab rfl) (ne_lab hf164 hb163.lab rfl) (fun k hk => ⟨out_ne hf165.lab rfl k hk, out_ne hb163.lab rfl k hk, out_neV (w := wd157) hf164.labs rfl k hk⟩) hp184) ?_
      rintro vr191 wd190 ⟨z185, rfl, hm189, f186, f187, f188⟩
      obtain ⟨O192, hold193, hnew194, hst195⟩ := adopt O159 (fun k => if Value.ownBlock z185 = some k then 17 else 1) [15, 16, 17] hm189 (memOr (memB hf165.lab rfl) (memOr (memB hb163.lab rfl) (memV hf164.labs rfl)))
      have hb196 : Blk 15 O192 wd190 p139 62 [vi r182.n, vu r182.last, vi r182.win.ahead, vi r182.win.size] := Blk.adopt hf165 hold193 f186
      have ho197 : OwnSl 17 Rep.b 5 O192 wd190 z185 r183.b := RowG.adopt Flat.b hf164.labs f187 hold193 hnew194 (fun k hk => if_pos hk)
      have hb198 : Blk 16 O192 wd190 p151 64 [z185, vi r183.n] := Blk.adopt hb163 hold193 f188
      refine WL.nil ?_
      refine At.then ?_
      refine WC.seq ?_
      refine WC.region ?_
      refine WL.y (Y.move rfl) rfl ?_
      refine WL.y (Y.move rfl) rfl ?_
      refine WL.y (Y.move rfl) rfl ?_
      refine WL.y (Y.move rfl) rfl ?_
      obtain ⟨e199, he199, h⟩ := bnd h
      have hf208 := hf135.mono (imm_st hst147 rfl rfl)
      have hf209 := hf208.mono (imm_st hst162 rfl rfl)
      have hf210 := hf209.mono (imm_st hst195 rfl rfl)
      obtain ⟨b200, off211, cap207, cs206, hv201, hi202, hl203, hc204, hok205, hA212⟩ := Sl.at2 hf210 he199
      obtain rfl := hok205
      replace hc204 : CellsAt _ _ _ [vu e199] := hc204
      have hca213 := CAt.imm hc204 hA212
      refine WL.y (Y.indexAddr ty22 ty23 rfl hv201 rfl hi202 hl203) rfl ?_
      refine WL.y (Y.loadSc ty23 rfl rfl hca213.at_) rfl ?_
      have hf214 := hf80.st hst147 rfl rfl rfl
      have hf215 := hf214.st hst162 rfl rfl rfl
      have hf216 := hf215.st hst195 rfl rfl rfl
      have hf217 := hb82.st hst147 rfl
      have hf218 := hf217.st hst162 rfl
      have hf219 := hf218.st hst195 rfl
      have hf220 := hb77.st hst147 rfl
      have hf221 := hf220.st hst162 rfl
      have hf222 := hf221.st hst195 rfl
      have hf223 := hf173.st hst195 rfl
      have hf224 := hf181.st hst195 rfl
      obtain ⟨⟨r225, r226⟩, hp227, h⟩ := bnd h
      refine WL.call (vals := [Value.pointer (some ⟨p46, 0, none⟩), Value.pointer (some ⟨p30, 0, none⟩), vu e199]) kok16 rfl rfl (c_xor_Row_Put (A := out [13, 11, 1002] O192) (a0 := (xor_Row.mk c83 c84 (xor_window.mk c85 c86))) (a1 := (bitio_Writer.mk c78 c81)) hf219.blk hf216.row hf222.blk hf223.at_ (CAt.inO hf223 rfl rfl) hf224.at_ (CAt.inO hf224 rfl rfl) (ne_blk hf219.lab hf222.lab rfl) (ne_lab hf216 hf219.lab rfl) (ne_lab hf216 hf222.lab rfl) (fun k hk => ⟨out_ne hf219.lab rfl k hk, out_ne hf222.lab rfl k hk, out_neV (w := wd190) hf216.labs rfl k hk⟩) hp227) ?_
      rintro vr234 wd233 ⟨z228, rfl, hm232, f229, f230, f231⟩
      obtain ⟨O235, hold236, hnew237, hst238⟩ := adopt O192 (fun k => if Value.ownBlock z228 = some k then 1002 else 1) [13, 11, 1002] hm232 (memOr (memB hf219.lab rfl) (memOr (memB hf222.lab rfl) (memV hf216.labs rfl)))
      have hb239 : Blk 13 O235 wd233 p46 62 [vi r225.n, vu r225.last, vi r225.win.ahead, vi r225.win.size] := Blk.adopt hf219 hold236 f229
      have ho240 : OwnSl 1002 Rep.b 5 O235 wd233 z228 r226.b := RowG.adopt Flat.b hf216.labs f230 hold236 hnew237 (fun k hk => if_pos hk)
      have hb241 : Blk 11 O235 wd233 p30 64 [z228, vi r226.n] := Blk.adopt hf222 hold236 f231
      refine WL.nil ?_
      refine At.then ?_
      refine WC.seq ?_
      refine WC.drawH [18, 19] [0, 1, 2, 3, 4, 5, 6, 7, 8, 9, 10] O235 12 fmix rfl (by kernel_rfl) ?_
      intro wd242 hst243
      refine WD.y 0 rfl (by kernel_rfl) (fun wd245 O244 hst246 => have hf247 := hb87.st hst147 rfl; have hf248 := hf247.st hst162 rfl; have hf249 := hf248.st hst195 rfl; have hf250 := hf249.st hst238 rfl; have hf251 := hf250.st hst243 rfl; have hf252 := hf251.st hst246 rfl; Y.loadAg ty41 rfl rfl (hf252.cells 0 [v89, vi c91, vi c92] rfl) rfl) rfl ?_
      refine WD.y 1 rfl (by kernel_rfl) (fun _ _ _ => Y.move rfl) rfl ?_
      refine WD.y 2 rfl (by kernel_rfl) (fun _ _ _ => Y.move rfl) rfl ?_
      obtain ⟨e259, he259, h⟩ := bnd h
      have hf268 := hf210.mono (imm_st hst238 rfl rfl)
      have hf269 := hf268.mono (imm_st hst243 rfl rfl)
      obtain ⟨b260, off270, cap267, cs266, hv261, hi262, hl263, hc264, hok265, hA271⟩ := Sl.at2 hf269 he259
      obtain rfl := hok265
      replace hc264 : CellsAt _ _ _ [vu e259] := hc264
      have hca272 := CAt.imm hc264 hA271
      refine WD.y 3 rfl (by kernel_rfl) (fun _ _ _ => Y.indexAddr ty22 ty23 rfl hv261 rfl hi262 hl263) rfl ?_
      refine WD.y 4 rfl (by kernel_rfl) (fun wd277 O276 hst278 => have hf279 := hca272.st hst278 rfl; Y.loadSc ty23 rfl rfl hf279.at_) rfl ?_
      obtain ⟨p293, h, hk294⟩ := bnd h
      refine WD.join (σ := (List Int × List UInt64 × Int × Int × Own × Value × Nat × Value)) (f' := 1) [10, 9, 8, 7, 6, 5, 4, 3, 2, 1, 0] (fun x O' w' => (x.1, x.2.1, x.2.2.1, x.2.2.2.1) = p293 ∧ Stp [18, 19] O235 wd242 x.2.2.2.2.1 w' ∧ Sl Rep.i w' (frs x.2.2.2.2.1) x.2.2.2.2.2.1 x.1 ∧ Blk 1001 x.2.2.2.2.1 w' x.2.2.2.2.2.2.1 41 [Value.slice none 0 0, vi 0, vi 0] ∧ Sl Rep.u w' (frs x.2.2.2.2.1) x.2.2.2.2.2.2.2 x.2.1 ∧ x.2.2.2.2.1 = O') (fun x => [(0, v0), (1, vu a1), (5, Value.pointer (some ⟨p30, 0, none⟩)), (6, Value.pointer (some ⟨p46, 0, none⟩)), (7, Value.pointer (some ⟨p57, 0, none⟩)), (8, v94), (9, vi i96), (10, Value.pointer (some ⟨p139, 0, none⟩)), (11, x.2.2.2.2.2.1), (12, Value.pointer (some ⟨x.2.2.2.2.2.2.1, 0, none⟩)), (53, Value.agg (List.toArray [x.2.2.2.2.2.2.2, vi x.2.2.1, vi x.2.2.2.1]))]) (fun hJ295 => ?_) ?_
      ·refine WD.heavy2 5 9 rfl rfl (by kernel_rfl) ?_ ?_
       ·have hf296 := hf90.mono (frs_st hst147 rfl)
        have hf297 := hf296.mono (frs_st hst162 rfl)
        have hf298 := hf297.mono (frs_st hst195 rfl)
        have hf299 := hf298.mono (frs_st hst238 rfl)
        have hf300 := hf299.mono (frs_st hst243 rfl)
        obtain ⟨⟨r301, r302⟩, hp303, h⟩ := bnd h
        refine WL.call (vals := [Value.agg (List.toArray [v89, vi c91, vi c92]), vu e259]) kok21 rfl rfl (c_ref07_Put (A := fun _ => True) (a0 := (ref07_State.mk c88 (ref07_Window.mk c91 c92))) (Sl.all hf300) hp303) ?_
        rintro vr310 wd309 ⟨u304, u305, rfl, hm308, f306, f307⟩
        obtain ⟨O311, hold312, hnew313, hst314⟩ := adoptE O235 (fun k => 1) hm308
        have hf315 : Sl Rep.i wd309 (frs O311) u304 r301 := Sl.adoptF f306 (fun k hk => ⟨hk, rfl⟩) hnew313
        have hf316 : Sl Rep.u wd309 (frs O311) u305 r302.L := Sl.adoptF f307 (fun k hk => ⟨hk, rfl⟩) hnew313
        refine WL.nil ?_
        refine At.dq (Stp.up hst314 rfl) ?_
        refine WD.y 6 rfl (by kernel_rfl) (fun _ _ _ => Y.move rfl) rfl ?_
        refine WD.y 7 rfl (by kernel_rfl) (fun _ _ _ => Y.extract rfl rfl) rfl ?_
        refine WD.y 8 rfl (by kernel_rfl) (fun _ _ _ => Y.extract rfl rfl) rfl ?_
        refine WD.heavy 9 rfl (by kernel_rfl) ?_
        refine WL.alloc (O := O311) 18 [Value.slice none 0 0, vi 0, vi 0] ty41 rfl rfl ?_
        intro p327 O328 wd329 hst330 hb326
        refine WL.nil ?_
        refine At.dq (Stp.up hst330 rfl) ?_
        refine WD.y 10 rfl (by kernel_rfl) (fun _ _ _ => Y.assign rfl) rfl ?_
        obtain ⟨O334, hst335, hb336⟩ := Blk.rlb 1001 rfl hb326
        have hf337 := hf315.mono (frs_st hst330 rfl)
        have hf338 := hf337.mono (frs_st hst335 rfl)
        have hf339 := hf316.mono (frs_st hst330 rfl)
        have hf340 := hf339.mono (frs_st hst335 rfl)
        refine WD.own (Stp.up hst335 rfl) ?_
        refine WD.perm _ [10, 9, 8, 7, 6, 5, 4, 3, 2, 1, 0] (by kernel_rfl) ?_
        exact hJ295 (r301, r302.L, r302.W.From, r302.W.Size, O334, u304, p327, u305) _ _ _ ⟨some1 h, (Stp.trans (Stp.up hst314 rfl) (Stp.trans (Stp.up hst330 rfl) (Stp.up hst335 rfl))), hf338, hb336, hf340, rfl⟩ (.cons rfl (.cons rfl (.cons rfl (.cons rfl (.cons rfl (.cons rfl (.cons rfl (.cons rfl (.cons rfl (.cons rfl (.cons rfl .nil)))))))))))
       ·try simp only [Option.bind_assoc] at h
        try simp only [Option.bind_some] at h
        refine WL.alloc (O := O235) 19 [Value.slice none 0 0, vi 0, vi 0] ty41 rfl rfl ?_
        intro p342 O343 wd344 hst345 hb341
        refine WL.nil ?_
        refine At.dq (Stp.up hst345 rfl) ?_
        refine WD.heavy 5 rfl (by kernel_rfl) ?_
        have hf346 := hf90.mono (frs_st hst147 rfl)
        have hf347 := hf346.mono (frs_st hst162 rfl)
        have hf348 := hf347.mono (frs_st hst195 rfl)
        have hf349 := hf348.mono (frs_st hst238 rfl)
        have hf350 := hf349.mono (frs_st hst243 rfl)
        have hf351 := hf350.mono (frs_st hst345 rfl)
        obtain ⟨⟨r352, r353⟩, hp354, h⟩ := bnd h
        refine WL.call (vals := [Value.agg (List.toArray [v89, vi c91, vi c92]), vu e259]) kok21 rfl rfl (c_ref07_Put (A := fun _ => True) (a0 := (ref07_State.mk c88 (ref07_Window.mk c91 c92))) (Sl.all hf351) hp354) ?_
        rintro vr361 wd360 ⟨u355, u356, rfl, hm359, f357, f358⟩
        obtain ⟨O362, hold363, hnew364, hst365⟩ := adoptE O343 (fun k => 1) hm359
        have hf366 : Sl Rep.i wd360 (frs O362) u355 r352 := Sl.adoptF f357 (fun k hk => ⟨hk, rfl⟩) hnew364
        have hf367 : Sl Rep.u wd360 (frs O362) u356 r353.L := Sl.adoptF f358 (fun k hk => ⟨hk, rfl⟩) hnew364
        refine WL.nil ?_
        refine At.dq (Stp.up hst365 rfl) ?_
        refine WD.y 6 rfl (by kernel_rfl) (fun _ _ _ => Y.move rfl) rfl ?_
        refine WD.y 7 rfl (by kernel_rfl) (fun _ _ _ => Y.extract rfl rfl) rfl ?_
        refine WD.y 8 rfl (by kernel_rfl) (fun _ _ _ => Y.extract rfl rfl) rfl ?_
        refine WD.y 10 rfl (by kernel_rfl) (fun _ _ _ => Y.assign rfl) rfl ?_
        have hf380 := hb341.st hst365 rfl
        obtain ⟨O381, hst382, hb383⟩ := Blk.rlb 1001 rfl hf380
        have hf384 := hf366.mono (frs_st hst382 rfl)
        have hf385 := hf367.mono (frs_st hst382 rfl)
        refine WD.own (Stp.up hst382 rfl) ?_
        refine WD.perm _ [10, 9, 8, 7, 6, 5, 4, 3, 2, 1, 0] (by kernel_rfl) ?_
        exact hJ295 (r352, r353.L, r353.W.From, r353.W.Size, O381, u355, p342, u356) _ _ _ ⟨some1 h, (Stp.trans (Stp.up hst345 rfl) (Stp.trans (Stp.up hst365 rfl) (Stp.up hst382 rfl))), hf384, hb383, hf385, rfl⟩ (.cons rfl (.cons rfl (.cons rfl (.cons rfl (.cons rfl (.cons rfl (.cons rfl (.cons rfl (.cons rfl (.cons rfl (.cons rfl .nil)))))))))))
      ·rintro ⟨bits280, x285, x288, x289, O290, v281, b283, v286⟩ _ wd291 ⟨rfl, hst292, hf282, hb284, hf287, rfl⟩
       replace h := hk294
       try dsimp only at h hst292 hf282 hb284 hf287
       refine (show WD _ _ _ _ _ _ _ _ [(0, v0), (1, vu a1), (5, Value.pointer (some ⟨p30, 0, none⟩)), (6, Value.pointer (some ⟨p46, 0, none⟩)), (7, Value.pointer (some ⟨p57, 0, none⟩)), (8, v94), (9, vi i96), (10, Value.pointer (some ⟨p139, 0, none⟩)), (11, v281), (12, Value.pointer (some ⟨b283, 0, none⟩)), (53, Value.agg (List.toArray [v286, vi x288, vi x289]))] _ _ from ?_)
       refine WD.phase [1001] [0, 1, 2, 3, 4, 5, 6, 7, 8, 9, 10, 11] (by kernel_rfl) (by kernel_rfl) ?_
       refine WD.heavy 11 rfl (by kernel_rfl) ?_
       have hh389 := h
       obtain ⟨p386, m387, c388, rfl⟩ := hf287.shape
       have h := hh389
       refine WL.store (v := Value.agg (List.toArray [(Value.slice p386 m387 c388), vi x288, vi x289])) (cells' := [(Value.slice p386 m387 c388), vi x288, vi x289]) ty41 rfl rfl hb284 rfl (Nat.le_of_ble_eq_true rfl) rfl rfl ?_
       intro wd390 hst391 hb392
       refine WL.nil ?_
       refine At.dq (Stp.up hst391 rfl) ?_
       refine WD.done_ (by kernel_rfl) ?_
       refine At.then ?_
       refine WC.seq ?_
       refine WC.region ?_
       refine WL.y (Y.loadAg ty41 rfl rfl (hb392.cells 0 [(Value.slice p386 m387 c388), vi x288, vi x289] rfl) rfl) rfl ?_
       have hf393 := hb87.st hst147 rfl
       have hf394 := hf393.st hst162 rfl
       have hf395 := hf394.st hst195 rfl
       have hf396 := hf395.st hst238 rfl
       have hf397 := hf396.st hst243 rfl
       have hf398 := hf397.st hst292 rfl
       have hf399 := hf398.st hst391 rfl
       refine WL.store (v := Value.agg (List.toArray [(Value.slice p386 m387 c388), vi x288, vi x289])) (cells' := [(Value.slice p386 m387 c388), vi x288, vi x289]) ty41 rfl rfl hf399 rfl (Nat.le_of_ble_eq_true rfl) rfl rfl ?_
       intro wd400 hst401 hb402
       refine WL.nil ?_
       refine At.then ?_
       refine WC.seq ?_
       refine WC.region ?_
       refine WL.y (Y.move rfl) rfl ?_
       refine WL.y (Y.move rfl) rfl ?_
       obtain ⟨xs403, hxs403, h⟩ := bnd h
       have hf404 := hf282.mono (frs_st hst391 rfl)
       have hf405 := hf404.mono (frs_st hst401 rfl)
       have hf406 := hf95.st hst147 rfl rfl rfl
       have hf407 := hf406.st hst162 rfl rfl rfl
       have hf408 := hf407.st hst195 rfl rfl rfl
       have hf409 := hf408.st hst238 rfl rfl rfl
       have hf410 := hf409.st hst243 rfl rfl rfl
       have hf411 := hf410.st hst292 rfl rfl rfl
       have hf412 := hf411.st hst391 rfl rfl rfl
       have hf413 := hf412.st hst401 rfl rfl rfl
       refine WL.append (by decide) ty32 ty3 rfl (by decide) rfl rfl hf413 (Sl.src (Sl.mono hf405 frs_imm)) hxs403 rfl ?_
       intro v417 O414 wd415 hst416 ho418
       refine WL.y (Y.assign rfl) rfl ?_
       refine WL.nil ?_
       refine At.then ?_
       refine WC.seq ?_
       refine WC.region ?_
       refine WL.y (Y.move rfl) rfl ?_
       have hf419 := hb241.st hst243 rfl
       have hf420 := hf419.st hst292 rfl
       have hf421 := hf420.st hst391 rfl
       have hf422 := hf421.st hst401 rfl
       have hf423 := hf422.st hst416 rfl
       have hf424 := ho240.st hst243 rfl rfl rfl
       have hf425 := hf424.st hst292 rfl rfl rfl
       have hf426 := hf425.st hst391 rfl rfl rfl
       have hf427 := hf426.st hst401 rfl rfl rfl
       have hf428 := hf427.st hst416 rfl rfl rfl
       obtain ⟨r429, hp430, h⟩ := bnd h
       refine WL.call (vals := [Value.pointer (some ⟨p30, 0, none⟩)]) kok17 rfl rfl (c_bitio_Writer_Len (A := fun _ => True) (a0 := r226) (hf428.src.sl) hf423.blk trivial hp430) ?_
       rintro vr433 wd432 ⟨rfl, hm431⟩
       obtain ⟨O434, hold435, hnew436, hst437⟩ := adoptE O414 (fun k => 1) hm431
       refine WL.y (Y.move rfl) rfl ?_
       have hf438 := ho418.st hst437 rfl rfl rfl
       refine WL.y (Y.len ty32 rfl hf438.src.sl) rfl ?_
       refine WL.y (Y.neq_i rfl rfl) rfl ?_
       refine WL.y (Y.move rfl) rfl ?_
       obtain ⟨p443, h, hk444⟩ := bnd h
       refine WL.cut 6 (σ := (Bool × Own)) (fun x w' => x.1 = p443 ∧ Stp [] O434 wd432 x.2 w') (fun x => [(0, v0), (1, vu a1), (5, Value.pointer (some ⟨p30, 0, none⟩)), (6, Value.pointer (some ⟨p46, 0, none⟩)), (7, Value.pointer (some ⟨p57, 0, none⟩)), (8, v417), (9, vi i96), (10, Value.pointer (some ⟨p139, 0, none⟩)), (69, Value.bool x.1)]) ?_ ?_
       ·rcases cnd h with ⟨hE445, h⟩ | ⟨hE445, h⟩
        ·refine WL.ren 63 rfl (congrArg Value.bool hE445) ?_
         refine WL.gS rfl rfl rfl rfl ?_
         refine WL.gS rfl rfl rfl rfl ?_
         refine WL.gS rfl rfl rfl rfl ?_
         refine WL.gS rfl rfl rfl rfl ?_
         refine WL.gS rfl rfl rfl rfl ?_
         refine WL.y (Y.pick (b := true) rfl rfl) rfl ?_
         exact WL.nil (At.join (σ := (Bool × Own)) (true, O434) ⟨some1 h, (Stp.refl _ _ _)⟩ (.cons rfl (.cons rfl (.cons rfl (.cons rfl (.cons rfl (.cons rfl (.cons rfl (.cons rfl (.cons rfl .nil))))))))))
        ·refine WL.ren 63 rfl (congrArg Value.bool hE445) ?_
         refine WL.ung rfl rfl ?_
         refine WL.y (Y.move rfl) rfl ?_
         refine WL.ung rfl rfl ?_
         have hf446 := hb239.st hst243 rfl
         have hf447 := hf446.st hst292 rfl
         have hf448 := hf447.st hst391 rfl
         have hf449 := hf448.st hst401 rfl
         have hf450 := hf449.st hst416 rfl
         have hf451 := hf450.st hst437 rfl
         obtain ⟨r452, hp453, h⟩ := bnd h
         refine WL.call (vals := [Value.pointer (some ⟨p46, 0, none⟩)]) kok15 rfl rfl (c_xor_Row_Len (A := fun _ => True) (a0 := r225) hf451.blk trivial hp453) ?_
         rintro vr456 wd455 ⟨rfl, hm454⟩
         obtain ⟨O457, hold458, hnew459, hst460⟩ := adoptE O434 (fun k => 1) hm454
         refine WL.ung rfl rfl ?_
         refine WL.y (Y.move rfl) rfl ?_
         refine WL.ung rfl rfl ?_
         refine WL.y (Y.add_i rfl rfl) rfl ?_
         refine WL.ung rfl rfl ?_
         refine WL.y (Y.neq_i rfl rfl) rfl ?_
         refine WL.y (Y.pick (b := false) rfl rfl) rfl ?_
         exact WL.nil (At.join (σ := (Bool × Own)) ((!decide (r452 = w64 (i96 + 1))), O457) ⟨some1 h, (Stp.up hst460 rfl)⟩ (.cons rfl (.cons rfl (.cons rfl (.cons rfl (.cons rfl (.cons rfl (.cons rfl (.cons rfl (.cons rfl .nil))))))))))
       ·rintro ⟨x439, O440⟩ wd441 ⟨rfl, hst442⟩
        replace h := hk444
        try dsimp only at h hst442
        refine (show WL _ _ _ _ _ [(0, v0), (1, vu a1), (5, Value.pointer (some ⟨p30, 0, none⟩)), (6, Value.pointer (some ⟨p46, 0, none⟩)), (7, Value.pointer (some ⟨p57, 0, none⟩)), (8, v417), (9, vi i96), (10, Value.pointer (some ⟨p139, 0, none⟩)), (69, Value.bool x439)] _ from ?_)
        refine WL.y (Y.move rfl) rfl ?_
        obtain ⟨p465, h, hk466⟩ := bnd h
        refine WL.cut 6 (σ := (Bool × Own)) (fun x w' => x.1 = p465 ∧ Stp [] O440 wd441 x.2 w') (fun x => [(0, v0), (1, vu a1), (5, Value.pointer (some ⟨p30, 0, none⟩)), (6, Value.pointer (some ⟨p46, 0, none⟩)), (7, Value.pointer (some ⟨p57, 0, none⟩)), (8, v417), (9, vi i96), (76, Value.bool x.1)]) ?_ ?_
        ·rcases cnd h with ⟨hE467, h⟩ | ⟨hE467, h⟩
         ·refine WL.ren 70 rfl (congrArg Value.bool hE467) ?_
          refine WL.gS rfl rfl rfl rfl ?_
          refine WL.gS rfl rfl rfl rfl ?_
          refine WL.gS rfl rfl rfl rfl ?_
          refine WL.gS rfl rfl rfl rfl ?_
          refine WL.gS rfl rfl rfl rfl ?_
          refine WL.y (Y.pick (b := true) rfl rfl) rfl ?_
          exact WL.nil (At.join (σ := (Bool × Own)) (true, O440) ⟨some1 h, (Stp.refl _ _ _)⟩ (.cons rfl (.cons rfl (.cons rfl (.cons rfl (.cons rfl (.cons rfl (.cons rfl (.cons rfl .nil)))))))))
         ·refine WL.ren 70 rfl (congrArg Value.bool hE467) ?_
          refine WL.ung rfl rfl ?_
          refine WL.y (Y.move rfl) rfl ?_
          refine WL.ung rfl rfl ?_
          have hf468 := hb196.st hst238 rfl
          have hf469 := hf468.st hst243 rfl
          have hf470 := hf469.st hst292 rfl
          have hf471 := hf470.st hst391 rfl
          have hf472 := hf471.st hst401 rfl
          have hf473 := hf472.st hst416 rfl
          have hf474 := hf473.st hst437 rfl
          have hf475 := hf474.st hst442 rfl
          obtain ⟨r476, hp477, h⟩ := bnd h
          refine WL.call (vals := [Value.pointer (some ⟨p139, 0, none⟩)]) kok15 rfl rfl (c_xor_Row_Len (A := fun _ => True) (a0 := r182) hf475.blk trivial hp477) ?_
          rintro vr480 wd479 ⟨rfl, hm478⟩
          obtain ⟨O481, hold482, hnew483, hst484⟩ := adoptE O440 (fun k => 1) hm478
          refine WL.ung rfl rfl ?_
          refine WL.y (Y.move rfl) rfl ?_
          refine WL.ung rfl rfl ?_
          refine WL.y (Y.add_i rfl rfl) rfl ?_
          refine WL.ung rfl rfl ?_
          refine WL.y (Y.neq_i rfl rfl) rfl ?_
          refine WL.y (Y.pick (b := false) rfl rfl) rfl ?_
          exact WL.nil (At.join (σ := (Bool × Own)) ((!decide (r476 = w64 (i96 + 1))), O481) ⟨some1 h, (Stp.up hst484 rfl)⟩ (.cons rfl (.cons rfl (.cons rfl (.cons rfl (.cons rfl (.cons rfl (.cons rfl (.cons rfl .nil)))))))))
        ·rintro ⟨x461, O462⟩ wd463 ⟨rfl, hst464⟩
         replace h := hk466
         try dsimp only at h hst464
         refine (show WL _ _ _ _ _ [(0, v0), (1, vu a1), (5, Value.pointer (some ⟨p30, 0, none⟩)), (6, Value.pointer (some ⟨p46, 0, none⟩)), (7, Value.pointer (some ⟨p57, 0, none⟩)), (8, v417), (9, vi i96), (76, Value.bool x461)] _ from ?_)
         refine WL.nil ?_
         refine At.then ?_
         rcases cnd h with ⟨hc485, h⟩ | ⟨hc485, h⟩
         ·refine WC.condT' rfl hc485 ?_
          refine WC.seq ?_
          refine WC.region ?_
          refine WL.y (Y.assign rfl) rfl ?_
          refine WL.nil ?_
          refine At.then ?_
          refine WC.ret ?_
          refine At.inBlockR ?_
          refine At.thenR ?_
          refine At.loopR ?_
          have h := outr1 h hn130 hk113
          refine At.joinBR ?_
          refine At.inBlockR ?_
          have h := outs1 h hk76
          refine At.joinR ?_
          refine At.thenR ?_
          obtain rfl := some1 h
          have hs486 : Stp [11, 12, 13, 14, 15, 16, 17, 18, 19, 20, 1001, 1002, 1003] (Lg.O0 A) w O462 wd463 := (Stp.trans (Stp.up hst22 rfl) (Stp.trans (Stp.up hst41 rfl) (Stp.trans (Stp.up hst54 rfl) (Stp.trans (Stp.up hst60 rfl) (Stp.trans (Stp.up hst62 rfl) (Stp.trans (Stp.up hst99 rfl) (Stp.trans (Stp.up hst147 rfl) (Stp.trans (Stp.up hst162 rfl) (Stp.trans (Stp.up hst195 rfl) (Stp.trans (Stp.up hst238 rfl) (Stp.trans (Stp.up hst243 rfl) (Stp.trans (Stp.up hst292 rfl) (Stp.trans (Stp.up hst391 rfl) (Stp.trans (Stp.up hst401 rfl) (Stp.trans (Stp.up hst416 rfl) (Stp.trans (Stp.up hst437 rfl) (Stp.trans (Stp.up hst442 rfl) (Stp.up hst464 rfl))))))))))))))))))
          exact At.res (.inl rfl) rfl (.tmp rfl .nil) ⟨rfl, (Stp.ext hs486 rfl rfl)⟩
         ·refine WC.condF' rfl hc485 ?_
          refine WC.skip ?_
          refine At.inBlock ?_
          refine At.then ?_
          refine WC.region ?_
          refine WL.y (Y.move rfl) rfl ?_
          refine WL.y (Y.add_i rfl rfl) rfl ?_
          obtain ⟨i487, hi487, h⟩ := lt1 h
          refine WL.yE (Y.assign rfl) (congrArg vi hi487.symm) rfl ?_
          refine WL.nil ?_
          have hf488 := hf428.st hst437 rfl rfl rfl
          have hf489 := hf488.st hst442 rfl rfl rfl
          have hf490 := hf489.st hst464 rfl rfl rfl
          have hf491 := hf423.st hst437 rfl
          have hf492 := hf491.st hst442 rfl
          have hf493 := hf492.st hst464 rfl
          have hf494 := hb239.st hst243 rfl
          have hf495 := hf494.st hst292 rfl
          have hf496 := hf495.st hst391 rfl
          have hf497 := hf496.st hst401 rfl
          have hf498 := hf497.st hst416 rfl
          have hf499 := hf498.st hst437 rfl
          have hf500 := hf499.st hst442 rfl
          have hf501 := hf500.st hst464 rfl
          have hf502 := hf287.mono (frs_st hst391 rfl)
          have hf503 := hf502.mono (frs_st hst401 rfl)
          have hf504 := hf503.mono (frs_st hst416 rfl)
          have hf505 := hf504.mono (frs_st hst437 rfl)
          have hf506 := hf505.mono (frs_st hst442 rfl)
          have hf507 := hf506.mono (frs_st hst464 rfl)
          have hf508 := hb402.st hst416 rfl
          have hf509 := hf508.st hst437 rfl
          have hf510 := hf509.st hst442 rfl
          have hf511 := hf510.st hst464 rfl
          have hf512 := hf438.st hst442 rfl rfl rfl
          have hf513 := hf512.st hst464 rfl rfl rfl
          exact At.round (r226.b, r226.n, r225.n, r225.last, r225.win.ahead, r225.win.size, x285, x288, x289, xs403, i487, O462, z228, (Value.slice p386 m387 c388), v417) j128 (Nat.lt_succ_self _) ⟨next1 h hn130, (Stp.trans (Stp.up hst99 rfl) (Stp.trans (Stp.up hst147 rfl) (Stp.trans (Stp.up hst162 rfl) (Stp.trans (Stp.up hst195 rfl) (Stp.trans (Stp.up hst238 rfl) (Stp.trans (Stp.up hst243 rfl) (Stp.trans (Stp.up hst292 rfl) (Stp.trans (Stp.up hst391 rfl) (Stp.trans (Stp.up hst401 rfl) (Stp.trans (Stp.up hst416 rfl) (Stp.trans (Stp.up hst437 rfl) (Stp.trans (Stp.up hst442 rfl) (Stp.up hst464 rfl))))))))))))), hf490, hf493, hf501, hf507, hf511, hf513⟩ (.cons rfl (.cons rfl (.cons rfl (.cons rfl (.cons rfl (.cons rfl (.cons rfl .nil)))))))
     ·refine WC.condF' rfl hc136 ?_
      refine WC.exit ?_
      refine At.thenX ?_
      refine At.loopX ?_
      obtain ⟨O514, hst515, ho516⟩ := OwnSl.rlb 1004 rfl hf80
      have hf517 := hf95.st hst515 rfl rfl rfl
      obtain ⟨O518, hst519, ho520⟩ := OwnSl.rlb 1005 rfl hf517
      have hf521 := ho516.st hst519 rfl rfl rfl
      have hf522 := hb77.st hst515 rfl
      have hf523 := hf522.st hst519 rfl
      exact At.hitB (σ := (List UInt8 × Int × List Int × Own × Value × Value)) (c78, c81, all93, O518, v79, v94) ⟨brk1 h hn130, (Stp.trans (Stp.up hst99 rfl) (Stp.trans (Stp.up hst515 rfl) (Stp.up hst519 rfl))), hf521, hf523, ho520⟩ (.cons rfl (.cons rfl (.cons rfl .nil)))
    ·rintro ⟨c101, c104, all105, O108, v102, v106⟩ wd109 ⟨rfl, hst110, hf103, hb100, hf107⟩
     replace h := flowK_go hk113
     try dsimp only at h hst110 hf103 hb100 hf107
     refine (show At _ _ _ [(0, v0), (5, Value.pointer (some ⟨p30, 0, none⟩)), (8, v106)] _ from ?_)
     refine At.inBlockHit ?_
     obtain ⟨O524, hst525, ho526⟩ := OwnSl.rlb 1008 rfl hf103
     have hf527 := hf107.st hst525 rfl rfl rfl
     obtain ⟨O528, hst529, ho530⟩ := OwnSl.rlb 1009 rfl hf527
     have hf531 := ho526.st hst529 rfl rfl rfl
     have hf532 := hb100.st hst525 rfl
     have hf533 := hf532.st hst529 rfl
     exact At.join (σ := (List UInt8 × Int × List Int × Own × Value × Value)) (c101, c104, all105, O528, v102, v106) ⟨go2 h, (Stp.trans (Stp.up hst110 rfl) (Stp.trans (Stp.up hst525 rfl) (Stp.up hst529 rfl))), hf531, hf533, ho530⟩ (.cons rfl (.cons rfl (.cons rfl .nil)))
   ·rintro ⟨c65, c68, all69, O72, v66, v70⟩ wd73 ⟨rfl, hst74, hf67, hb64, hf71⟩
    replace h := flowK_go hk76
    try dsimp only at h hst74 hf67 hb64 hf71
    refine (show At _ _ _ [(0, v0), (5, Value.pointer (some ⟨p30, 0, none⟩)), (8, v70)] _ from ?_)
    refine At.then ?_
    refine WC.seq ?_
    refine WC.seq ?_
    refine WC.drawH [] [0, 1, 2, 3, 4, 5, 6, 7, 8, 9, 10, 11, 12, 13] O72 14 fmix rfl (by kernel_rfl) ?_
    intro wd534 hst535
    refine WD.y 0 rfl (by kernel_rfl) (fun _ _ _ => Y.move rfl) rfl ?_
    refine WD.y 3 rfl (by kernel_rfl) (fun _ _ _ => Y.move rfl) rfl ?_
    refine WD.heavy 1 rfl (by kernel_rfl) ?_
    have hf542 := hb64.st hst535 rfl
    have hf543 := hf67.st hst535 rfl rfl rfl
    obtain ⟨r544, hp545, h⟩ := bnd h
    refine WL.call (vals := [Value.pointer (some ⟨p30, 0, none⟩)]) kok18 rfl rfl (c_bitio_Writer_Bytes (A := fun _ => True) (a0 := (bitio_Writer.mk c65 c68)) (hf543.src.sl) hf542.blk trivial hp545) ?_
    rintro vr550 wd549 ⟨_, rfl, hm548, f547⟩
    obtain ⟨O551, hold552, hnew553, hst554⟩ := adoptE O72 (fun k => if Value.ownBlock vr550 = some k then 20 else 1) hm548
    have hf555 : OwnSl 20 Rep.b 5 O551 wd549 vr550 r544 := RowF.adopt 20 Flat.b f547 hnew553 (fun k hk => if_pos hk)
    refine WL.nil ?_
    refine At.dq (Stp.up hst554 rfl) ?_
    refine WD.y 2 rfl (by kernel_rfl) (fun wd557 O556 hst558 => have hf559 := hf555.st hst558 rfl rfl rfl; Y.b2s ty27 ty5 ty9 rfl hf559.src.sl) rfl ?_
    refine WD.heavy 4 rfl (by kernel_rfl) ?_
    have hf560 := hf71.st hst535 rfl rfl rfl
    have hf561 := hf560.st hst554 rfl rfl rfl
    obtain ⟨r562, hp563, h⟩ := bnd h
    refine WL.call (vals := [v70]) kok19 rfl rfl (c_ref01_Bytes (A := fun _ => True) (hf561.src.sl) hp563) ?_
    rintro vr568 wd567 ⟨_, rfl, hm566, f565⟩
    obtain ⟨O569, hold570, hnew571, hst572⟩ := adoptE O551 (fun k => if Value.ownBlock vr568 = some k then 21 else 1) hm566
    have hf573 : OwnSl 21 Rep.b 5 O569 wd567 vr568 r562 := RowF.adopt 21 Flat.b f565 hnew571 (fun k hk => if_pos hk)
    refine WL.nil ?_
    refine At.dq (Stp.up hst572 rfl) ?_
    refine WD.y 5 rfl (by kernel_rfl) (fun wd575 O574 hst576 => have hf577 := hf573.st hst576 rfl rfl rfl; Y.b2s ty27 ty5 ty9 rfl hf577.src.sl) rfl ?_
    refine WD.y 6 rfl (by kernel_rfl) (fun _ _ _ => Y.neq_s rfl rfl) rfl ?_
    refine WD.y 7 rfl (by kernel_rfl) (fun _ _ _ => Y.move rfl) rfl ?_
    obtain ⟨p588, h, hk589⟩ := bnd h
    refine WD.join (σ := (Bool × Own)) (f' := 0) [13, 12, 9, 11, 10, 8, 7, 6, 5, 4, 2, 1, 3, 0] (fun x O' w' => x.1 = p588 ∧ Stp [] O569 wd567 x.2 w' ∧ x.2 = O') (fun x => [(0, v0), (5, Value.pointer (some ⟨p30, 0, none⟩)), (90, Value.bool x.1)]) (fun hJ590 => ?_) ?_
    ·rcases cnd h with ⟨hE591, h⟩ | ⟨hE591, h⟩
     ·refine WD.ren 84 rfl (congrArg Value.bool hE591) ?_
      refine WD.gS 8 rfl (by kernel_rfl) rfl rfl rfl rfl ?_
      refine WD.gS 10 rfl (by kernel_rfl) rfl rfl rfl rfl ?_
      refine WD.gS 11 rfl (by kernel_rfl) rfl rfl rfl rfl ?_
      refine WD.heavy 9 rfl (by kernel_rfl) ?_
      refine WL.gS rfl rfl rfl rfl ?_
      refine WL.nil ?_
      refine At.dq (Stp.refl _ _ _) ?_
      refine WD.gS 12 rfl (by kernel_rfl) rfl rfl rfl rfl ?_
      refine WD.y 13 rfl (by kernel_rfl) (fun _ _ _ => Y.pick (b := true) rfl rfl) rfl ?_
      refine WD.ren 84 rfl (congrArg Value.bool hE591.symm) ?_
      exact hJ590 (true, O569) _ _ _ ⟨some1 h, (Stp.refl _ _ _), rfl⟩ (.cons rfl (.cons rfl (.cons rfl .nil)))
     ·refine WD.ren 84 rfl (congrArg Value.bool hE591) ?_
      refine WD.gT 8 rfl (by kernel_rfl) rfl rfl (fun _ _ _ => Y.move rfl) rfl ?_
      refine WD.gT 10 rfl (by kernel_rfl) rfl rfl (fun _ _ _ => Y.move rfl) rfl ?_
      refine WD.gT 11 rfl (by kernel_rfl) rfl rfl (fun wd602 O601 hst603 => have hf604 := hf561.st hst572 rfl rfl rfl; have hf605 := hf604.st hst603 rfl rfl rfl; Y.len ty32 rfl hf605.src.sl) rfl ?_
      refine WD.heavy 9 rfl (by kernel_rfl) ?_
      refine WL.ung rfl rfl ?_
      have hf606 := hf25.mono (imm_st hst41 rfl rfl)
      have hf607 := hf606.mono (imm_st hst54 rfl rfl)
      have hf608 := hf607.mono (imm_st hst60 rfl rfl)
      have hf609 := hf608.mono (imm_st hst62 rfl rfl)
      have hf610 := hf609.mono (imm_st hst74 rfl rfl)
      have hf611 := hf610.mono (imm_st hst535 rfl rfl)
      have hf612 := hf611.mono (imm_st hst554 rfl rfl)
      have hf613 := hf612.mono (imm_st hst572 rfl rfl)
      have hf614 := hG12.st hst22 rfl
      have hf615 := hf614.st hst41 rfl
      have hf616 := hf615.st hst54 rfl
      have hf617 := hf616.st hst60 rfl
      have hf618 := hf617.st hst62 rfl
      have hf619 := hf618.st hst74 rfl
      have hf620 := hf619.st hst535 rfl
      have hf621 := hf620.st hst554 rfl
      have hf622 := hf621.st hst572 rfl
      have hf623 := hG13.st hst22 rfl
      have hf624 := hf623.st hst41 rfl
      have hf625 := hf624.st hst54 rfl
      have hf626 := hf625.st hst60 rfl
      have hf627 := hf626.st hst62 rfl
      have hf628 := hf627.st hst74 rfl
      have hf629 := hf628.st hst535 rfl
      have hf630 := hf629.st hst554 rfl
      have hf631 := hf630.st hst572 rfl
      obtain ⟨r632, hp633, h⟩ := bnd h
      refine WL.call (vals := [v0]) kok7 rfl rfl (c_xor_Cost (A := fun _ => True) (Sl.all hf613) hf622.at_ trivial hf631.at_ trivial hp633) ?_
      rintro vr636 wd635 ⟨rfl, hm634⟩
      obtain ⟨O637, hold638, hnew639, hst640⟩ := adoptE O569 (fun k => 1) hm634
      refine WL.nil ?_
      refine At.dq (Stp.up hst640 rfl) ?_
      refine WD.gT 12 rfl (by kernel_rfl) rfl rfl (fun _ _ _ => Y.neq_i rfl rfl) rfl ?_
      refine WD.y 13 rfl (by kernel_rfl) (fun _ _ _ => Y.pick (b := false) rfl rfl) rfl ?_
      refine WD.ren 84 rfl (congrArg Value.bool hE591.symm) ?_
      exact hJ590 ((!decide (r632 = (all69.length : Int))), O637) _ _ _ ⟨some1 h, (Stp.up hst640 rfl), rfl⟩ (.cons rfl (.cons rfl (.cons rfl .nil)))
    ·rintro ⟨x584, O585⟩ _ wd586 ⟨rfl, hst587, rfl⟩
     replace h := hk589
     try dsimp only at h hst587
     refine (show WD _ _ _ _ _ _ _ _ [(0, v0), (5, Value.pointer (some ⟨p30, 0, none⟩)), (90, Value.bool x584)] _ _ from ?_)
     refine WD.done_ (by kernel_rfl) ?_
     refine At.then ?_
     rcases cnd h with ⟨hc647, h⟩ | ⟨hc647, h⟩
     ·refine WC.condT' rfl hc647 ?_
      refine WC.seq ?_
      refine WC.region ?_
      refine WL.y (Y.assign rfl) rfl ?_
      refine WL.nil ?_
      refine At.then ?_
      refine WC.ret ?_
      refine At.thenR ?_
      obtain rfl := some1 h
      have hs648 : Stp [11, 12, 13, 14, 15, 16, 17, 18, 19, 20, 1001, 1002, 1003, 1004, 1005] (Lg.O0 A) w O585 wd586 := (Stp.trans (Stp.up hst22 rfl) (Stp.trans (Stp.up hst41 rfl) (Stp.trans (Stp.up hst54 rfl) (Stp.trans (Stp.up hst60 rfl) (Stp.trans (Stp.up hst62 rfl) (Stp.trans (Stp.up hst74 rfl) (Stp.trans (Stp.up hst535 rfl) (Stp.trans (Stp.up hst554 rfl) (Stp.trans (Stp.up hst572 rfl) (Stp.up hst587 rfl))))))))))
      exact At.res (.inl rfl) rfl (.tmp rfl .nil) ⟨rfl, (Stp.ext hs648 rfl rfl)⟩
     ·refine WC.condF' rfl hc647 ?_
      refine WC.skip ?_
      refine At.then ?_
      refine WC.seq ?_
      refine WC.region ?_
      refine WL.y (Y.move rfl) rfl ?_
      have hf649 := hf542.st hst554 rfl
      have hf650 := hf649.st hst572 rfl
      have hf651 := hf650.st hst587 rfl
      have hf652 := hf543.st hst554 rfl rfl rfl
      have hf653 := hf652.st hst572 rfl rfl rfl
      have hf654 := hf653.st hst587 rfl rfl rfl
      obtain ⟨r655, hp656, h⟩ := bnd h
      refine WL.call (vals := [Value.pointer (some ⟨p30, 0, none⟩)]) kok18 rfl rfl (c_bitio_Writer_Bytes (A := fun _ => True) (a0 := (bitio_Writer.mk c65 c68)) (hf654.src.sl) hf651.blk trivial hp656) ?_
      rintro vr661 wd660 ⟨_, rfl, hm659, f658⟩
      obtain ⟨O662, hold663, hnew664, hst665⟩ := adoptE O585 (fun k => if Value.ownBlock vr661 = some k then 22 else 1) hm659
      have hf666 : OwnSl 22 Rep.b 5 O662 wd660 vr661 r655 := RowF.adopt 22 Flat.b f658 hnew664 (fun k hk => if_pos hk)
      refine WL.y (Y.move rfl) rfl ?_
      have hf667 := hf651.st hst665 rfl
      have hf668 := hf654.st hst665 rfl rfl rfl
      obtain ⟨r669, hp670, h⟩ := bnd h
      refine WL.call (vals := [Value.pointer (some ⟨p30, 0, none⟩)]) kok17 rfl rfl (c_bitio_Writer_Len (A := fun _ => True) (a0 := (bitio_Writer.mk c65 c68)) (hf668.src.sl) hf667.blk trivial hp670) ?_
      rintro vr673 wd672 ⟨rfl, hm671⟩
      obtain ⟨O674, hold675, hnew676, hst677⟩ := adoptE O662 (fun k => 1) hm671
      have hf678 := hf666.st hst677 rfl rfl rfl
      obtain ⟨⟨r679, r680⟩, hp681, h⟩ := bnd h
      refine WL.call (vals := [vr661, vi r669]) kok8 rfl rfl (c_bitio_NewReader (A := fun _ => True) (hf678.src.sl) hp681) ?_
      rintro vr686 wd685 ⟨u682, rfl, hm684, f683⟩
      obtain ⟨O687, hold688, hnew689, hst690⟩ := adoptE O674 (labP u682 23) hm684
      refine WL.y (Y.move rfl) rfl ?_
      refine WL.y (Y.extract rfl rfl) rfl ?_
      refine WL.y (Y.extract rfl rfl) rfl ?_
      refine WL.y (Y.assign rfl) rfl ?_
      refine WL.y (Y.assign rfl) rfl ?_
      refine WL.nil ?_
      refine At.then ?_
      refine WC.seq ?_
      refine WC.seq ?_
      refine WC.region ?_
      refine WL.y (Y.move rfl) rfl ?_
      refine WL.y (Y.eql_opt ty28.u rfl rfl f683 (fun d hd => by obtain ⟨_, _, e, _⟩ := hd; exact ⟨_, e⟩)) rfl ?_
      refine WL.nil ?_
      refine At.then ?_
      rcases cnd h with ⟨hc691, h⟩ | ⟨hc691, h⟩
      ·refine WC.condT' rfl hc691 ?_
       refine WC.seq ?_
       refine WC.region ?_
       refine WL.y (Y.assign rfl) rfl ?_
       refine WL.nil ?_
       refine At.then ?_
       refine WC.ret ?_
       refine At.thenR ?_
       obtain rfl := some1 h
       have hs692 : Stp [11, 12, 13, 14, 15, 16, 17, 18, 19, 20, 1001, 1002, 1003, 1004, 1005] (Lg.O0 A) w O687 wd685 := (Stp.trans (Stp.up hst22 rfl) (Stp.trans (Stp.up hst41 rfl) (Stp.trans (Stp.up hst54 rfl) (Stp.trans (Stp.up hst60 rfl) (Stp.trans (Stp.up hst62 rfl) (Stp.trans (Stp.up hst74 rfl) (Stp.trans (Stp.up hst535 rfl) (Stp.trans (Stp.up hst554 rfl) (Stp.trans (Stp.up hst572 rfl) (Stp.trans (Stp.up hst587 rfl) (Stp.trans (Stp.up hst665 rfl) (Stp.trans (Stp.up hst677 rfl) (Stp.up hst690 rfl)))))))))))))
       exact At.res (.inl rfl) rfl (.tmp rfl .nil) ⟨rfl, (Stp.ext hs692 rfl rfl)⟩
      ·refine WC.condF' rfl hc691 ?_
       refine WC.skip ?_
       refine At.then ?_
       refine WC.seq ?_
       refine WC.region ?_
       obtain ⟨r693, hp694, h⟩ := bnd h
       refine WL.call (vals := []) kok10 rfl rfl (c_xor_NewRow hp694) ?_
       rintro vr699 wd698 ⟨p695, rfl, hm697, f696⟩
       obtain ⟨O700, hold701, hnew702, hst703⟩ := adoptE O687 (fun k => if k = p695 then 24 else 1) hm697
       have hb704 : Blk 24 O700 wd698 p695 62 [vi r693.n, vu r693.last, vi r693.win.ahead, vi r693.win.size] := Blk.new f696 hnew702 (if_pos rfl)
       refine WL.y (Y.assign rfl) rfl ?_
       refine WL.nil ?_
       refine At.then ?_
       refine WC.seq ?_
       refine WC.seq ?_
       refine WC.region ?_
       refine WL.y (Y.assign rfl) rfl ?_
       refine WL.nil ?_
       refine At.then ?_
       obtain ⟨p715, h, hk716⟩ := flow1 h
       refine WC.join (σ := (List UInt8 × Int × Int × Own × Nat × Value)) (fun x w' => p715 = .go (x.1, x.2.1, x.2.2.1) ∧ Stp [23, 24] O700 wd698 x.2.2.2.1 w' ∧ Sl Rep.b w' (imm x.2.2.2.1) x.2.2.2.2.2 x.1 ∧ Blk 1011 x.2.2.2.1 w' x.2.2.2.2.1 58 [x.2.2.2.2.2, vi x.2.1, vi x.2.2.1]) (fun x => [(13, Value.pointer (some ⟨x.2.2.2.2.1, 0, none⟩))]) ?_ ?_
       ·refine WC.block ?_
        obtain ⟨d717, hd717, h⟩ := bnd h
        obtain ⟨p718, v719, rfl, fb721, f720⟩ := OptP.some f683 hd717
        have hf722 : Sl Rep.b wd685 (frs O687) v719 d717.b := Sl.adoptF f720 (fun k hk => ⟨hk.1, labP_ne hk.2⟩) hnew689
        have hb723 : Blk 23 O687 wd685 p718 58 [v719, vi d717.n, vi d717.at_] := Blk.new fb721 hnew689 (labP_at p718 23)
        obtain ⟨p748, h, hk750⟩ := flow1 h
        obtain ⟨k749, h⟩ := loop_some h
        refine WC.joinB 2 (σ := (List UInt8 × Int × Int × Own × Value)) (fun x w' => p748 = .go (x.1, x.2.1, x.2.2.1) ∧ Stp [23, 24] O700 wd698 x.2.2.2.1 w' ∧ Sl Rep.b w' (imm x.2.2.2.1) x.2.2.2.2 x.1 ∧ Blk 23 x.2.2.2.1 w' p718 58 [x.2.2.2.2, vi x.2.1, vi x.2.2.1]) (fun x => [(13, Value.pointer (some ⟨p718, 0, none⟩))]) ?_ ?_
        ·have hf751 := hf722.mono (frs_st hst703 rfl)
         have hf752 := hb723.st hst703 rfl
         refine WC.loop (σ := (Int × UInt64 × Int × Int × List UInt8 × Int × Int × Int × Own × Value)) (fun x k w' => loopN k (law07_XorRows_lp2 a0) (x.1, x.2.1, x.2.2.1, x.2.2.2.1, x.2.2.2.2.1, x.2.2.2.2.2.1, x.2.2.2.2.2.2.1, x.2.2.2.2.2.2.2.1) = some p748 ∧ Stp [23, 24] O700 wd698 x.2.2.2.2.2.2.2.2.1 w' ∧ Blk 24 x.2.2.2.2.2.2.2.2.1 w' p695 62 [vi x.1, vu x.2.1, vi x.2.2.1, vi x.2.2.2.1] ∧ Sl Rep.b w' (imm x.2.2.2.2.2.2.2.2.1) x.2.2.2.2.2.2.2.2.2 x.2.2.2.2.1 ∧ Blk 23 x.2.2.2.2.2.2.2.2.1 w' p718 58 [x.2.2.2.2.2.2.2.2.2, vi x.2.2.2.2.2.1, vi x.2.2.2.2.2.2.1]) (fun x => [(0, v0), (6, Value.pointer (some ⟨p695, 0, none⟩)), (13, Value.pointer (some ⟨p718, 0, none⟩)), (15, vi x.2.2.2.2.2.2.2.1)]) (r693.n, r693.last, r693.win.ahead, r693.win.size, d717.b, d717.n, d717.at_, 0, O700, v719) k749 (.cons rfl (.cons rfl (.cons rfl (.cons rfl .nil)))) ⟨h, (Stp.refl _ _ _), hb704, (Sl.mono hf751 frs_imm), hf752⟩ ?_
         rintro ⟨c725, c726, c727, c728, c730, c733, c734, i735, O736, v731⟩ k749 wd737 ⟨h, hst738, hb724, hf732, hb729⟩
         obtain ⟨j753, q754, rfl, h, hn755⟩ := rnd1 h
         unfold law07_XorRows_lp2 at h
         try dsimp only at h hst738 hb724 hf732 hb729
         refine (show WC _ _ _ _ [(0, v0), (6, Value.pointer (some ⟨p695, 0, none⟩)), (13, Value.pointer (some ⟨p718, 0, none⟩)), (15, vi i735)] _ from ?_)
         refine WC.seq ?_
         refine WC.seq ?_
         refine WC.region ?_
         refine WL.y (Y.move rfl) rfl ?_
         refine WL.y (Y.move rfl) rfl ?_
         have hf756 := hf25.mono (imm_st hst41 rfl rfl)
         have hf757 := hf756.mono (imm_st hst54 rfl rfl)
         have hf758 := hf757.mono (imm_st hst60 rfl rfl)
         have hf759 := hf758.mono (imm_st hst62 rfl rfl)
         have hf760 := hf759.mono (imm_st hst74 rfl rfl)
         have hf761 := hf760.mono (imm_st hst535 rfl rfl)
         have hf762 := hf761.mono (imm_st hst554 rfl rfl)
         have hf763 := hf762.mono (imm_st hst572 rfl rfl)
         have hf764 := hf763.mono (imm_st hst587 rfl rfl)
         have hf765 := hf764.mono (imm_st hst665 rfl rfl)
         have hf766 := hf765.mono (imm_st hst677 rfl rfl)
         have hf767 := hf766.mono (imm_st hst690 rfl rfl)
         have hf768 := hf767.mono (imm_st hst703 rfl rfl)
         have hf769 := hf768.mono (imm_st hst738 rfl rfl)
         refine WL.y (Y.len ty22 rfl hf769) rfl ?_
         refine WL.y (Y.lss_i rfl rfl) rfl ?_
         refine WL.nil ?_
         refine At.then ?_
         rcases cnd h with ⟨hc770, h⟩ | ⟨hc770, h⟩
         ·refine WC.condT' rfl hc770 ?_
          refine WC.skip ?_
          refine At.then ?_
          refine WC.seq ?_
          refine WC.block ?_
          refine WC.seq ?_
          refine WC.region ?_
          refine WL.y (Y.move rfl) rfl ?_
          refine WL.y (Y.move rfl) rfl ?_
          have hf771 := hG12.st hst22 rfl
          have hf772 := hf771.st hst41 rfl
          have hf773 := hf772.st hst54 rfl
          have hf774 := hf773.st hst60 rfl
          have hf775 := hf774.st hst62 rfl
          have hf776 := hf775.st hst74 rfl
          have hf777 := hf776.st hst535 rfl
          have hf778 := hf777.st hst554 rfl
          have hf779 := hf778.st hst572 rfl
          have hf780 := hf779.st hst587 rfl
          have hf781 := hf780.st hst665 rfl
          have hf782 := hf781.st hst677 rfl
          have hf783 := hf782.st hst690 rfl
          have hf784 := hf783.st hst703 rfl
          have hf785 := hf784.st hst738 rfl
          have hf786 := hG13.st hst22 rfl
          have hf787 := hf786.st hst41 rfl
          have hf788 := hf787.st hst54 rfl
          have hf789 := hf788.st hst60 rfl
          have hf790 := hf789.st hst62 rfl
          have hf791 := hf790.st hst74 rfl
          have hf792 := hf791.st hst535 rfl
          have hf793 := hf792.st hst554 rfl
          have hf794 := hf793.st hst572 rfl
          have hf795 := hf794.st hst587 rfl
          have hf796 := hf795.st hst665 rfl
          have hf797 := hf796.st hst677 rfl
          have hf798 := hf797.st hst690 rfl
          have hf799 := hf798.st hst703 rfl
          have hf800 := hf799.st hst738 rfl
          obtain ⟨⟨r801, r802, r803, r804⟩, hp805, h⟩ := bnd h
          refine WL.call (vals := [Value.pointer (some ⟨p695, 0, none⟩), Value.pointer (some ⟨p718, 0, none⟩)]) kok13 rfl rfl (c_xor_Row_Get (A := imm O736) (a0 := (xor_Row.mk c725 c726 (xor_window.mk c727 c728))) (a1 := (bitio_Reader.mk c730 c733 c734)) hb724.blk hf732 hb729.blk hf785.at_ (CAt.inI hf785) hf800.at_ (CAt.inI hf800) (ne_blk hb724.lab hb729.lab rfl) (fun k hk => ⟨imm_ne hb724.lab rfl k hk, imm_ne hb729.lab rfl k hk⟩) hp805) ?_
          rintro vr812 wd811 ⟨z806, rfl, hm810, f807, f808, f809⟩
          obtain ⟨O813, hold814, hnew815, hst816⟩ := adopt O736 (fun k => 1) [24, 23] hm810 (memOr (memB hb724.lab rfl) (memB hb729.lab rfl))
          have hb817 : Blk 24 O813 wd811 p695 62 [vi r803.n, vu r803.last, vi r803.win.ahead, vi r803.win.size] := Blk.adopt hb724 hold814 f807
          have hf818 : Sl Rep.b wd811 (imm O813) z806 r804.b := Sl.adoptI (O := O736) f808 (fun _ hk => hk) (fun _ _ => Nat.le_refl _) hold814 hnew815
          have hb819 : Blk 23 O813 wd811 p718 58 [z806, vi r804.n, vi r804.at_] := Blk.adopt hb729 hold814 f809
          refine WL.y (Y.move rfl) rfl ?_
          refine WL.y (Y.extract rfl rfl) rfl ?_
          refine WL.y (Y.extract rfl rfl) rfl ?_
          refine WL.y (Y.assign rfl) rfl ?_
          refine WL.y (Y.assign rfl) rfl ?_
          refine WL.nil ?_
          refine At.then ?_
          refine WC.seq ?_
          refine WC.region ?_
          refine WL.y (Y.move rfl) rfl ?_
          refine WL.y (Y.move rfl) rfl ?_
          refine WL.y (Y.move rfl) rfl ?_
          obtain ⟨e820, he820, h⟩ := bnd h
          have hf829 := hf769.mono (imm_st hst816 rfl rfl)
          obtain ⟨b821, off830, cap828, cs827, hv822, hi823, hl824, hc825, hok826, hA831⟩ := Sl.at2 hf829 he820
          obtain rfl := hok826
          replace hc825 : CellsAt _ _ _ [vu e820] := hc825
          have hca832 := CAt.imm hc825 hA831
          refine WL.y (Y.indexAddr ty22 ty23 rfl hv822 rfl hi823 hl824) rfl ?_
          refine WL.y (Y.loadSc ty23 rfl rfl hca832.at_) rfl ?_
          refine WL.y (Y.neq_u rfl rfl) rfl ?_
          refine WL.y (Y.move rfl) rfl ?_
          refine WL.cut 3 (σ := Unit) (fun _ w' => wd811 = w') (fun _ => [(0, v0), (6, Value.pointer (some ⟨p695, 0, none⟩)), (13, Value.pointer (some ⟨p718, 0, none⟩)), (15, vi i735), (123, Value.bool ((!decide (r801 = e820)) || (!decide (r802 = 0))))]) ?_ ?_
          ·refine WL.part 120 rfl (fun hE833 => ?_) (fun hE833 => ?_)
           ·refine WL.gS rfl rfl rfl rfl ?_
            refine WL.gS rfl rfl rfl rfl ?_
            refine WL.y (Y.pick (b := true) rfl rfl) rfl ?_
            refine WL.ren (v' := Value.bool ((!decide (r801 = e820)) || (!decide (r802 = 0)))) 123 rfl (congrArg Value.bool (orT hE833)) ?_
            exact WL.nil (At.join () rfl (.cons rfl (.cons rfl (.cons rfl (.cons rfl (.cons rfl .nil))))))
           ·refine WL.ung rfl rfl ?_
            refine WL.y (Y.move rfl) rfl ?_
            refine WL.ung rfl rfl ?_
            refine WL.y (Y.neq_i rfl rfl) rfl ?_
            refine WL.y (Y.pick (b := false) rfl rfl) rfl ?_
            refine WL.ren (v' := Value.bool ((!decide (r801 = e820)) || (!decide (r802 = 0)))) 123 rfl (congrArg Value.bool (orF hE833)) ?_
            exact WL.nil (At.join () rfl (.cons rfl (.cons rfl (.cons rfl (.cons rfl (.cons rfl .nil))))))
          ·rintro _ _ rfl
           refine (show WL _ _ _ _ _ [(0, v0), (6, Value.pointer (some ⟨p695, 0, none⟩)), (13, Value.pointer (some ⟨p718, 0, none⟩)), (15, vi i735), (123, Value.bool ((!decide (r801 = e820)) || (!decide (r802 = 0))))] _ from ?_)
           refine WL.nil ?_
           refine At.then ?_
           rcases cnd h with ⟨hc834, h⟩ | ⟨hc834, h⟩
           ·refine WC.condT' rfl hc834 ?_
            refine WC.seq ?_
            refine WC.region ?_
            refine WL.y (Y.assign rfl) rfl ?_
            refine WL.nil ?_
            refine At.then ?_
            refine WC.ret ?_
            refine At.inBlockR ?_
            refine At.thenR ?_
            refine At.loopR ?_
            have h := outr1 h hn755 hk750
            refine At.joinBR ?_
            refine At.inBlockR ?_
            have h := outs1 h hk716
            refine At.joinR ?_
            refine At.thenR ?_
            obtain rfl := some1 h
            have hs835 : Stp [11, 12, 13, 14, 15, 16, 17, 18, 19, 20, 23, 24, 1001, 1002, 1003, 1004, 1005] (Lg.O0 A) w O813 wd811 := (Stp.trans (Stp.up hst22 rfl) (Stp.trans (Stp.up hst41 rfl) (Stp.trans (Stp.up hst54 rfl) (Stp.trans (Stp.up hst60 rfl) (Stp.trans (Stp.up hst62 rfl) (Stp.trans (Stp.up hst74 rfl) (Stp.trans (Stp.up hst535 rfl) (Stp.trans (Stp.up hst554 rfl) (Stp.trans (Stp.up hst572 rfl) (Stp.trans (Stp.up hst587 rfl) (Stp.trans (Stp.up hst665 rfl) (Stp.trans (Stp.up hst677 rfl) (Stp.trans (Stp.up hst690 rfl) (Stp.trans (Stp.up hst703 rfl) (Stp.trans (Stp.up hst738 rfl) (Stp.up hst816 rfl))))))))))))))))
            exact At.res (.inl rfl) rfl (.tmp rfl .nil) ⟨rfl, (Stp.ext hs835 rfl rfl)⟩
           ·refine WC.condF' rfl hc834 ?_
            refine WC.skip ?_
            refine At.inBlock ?_
            refine At.then ?_
            refine WC.region ?_
            refine WL.y (Y.move rfl) rfl ?_
            refine WL.y (Y.add_i rfl rfl) rfl ?_
            obtain ⟨i836, hi836, h⟩ := lt1 h
            refine WL.yE (Y.assign rfl) (congrArg vi hi836.symm) rfl ?_
            refine WL.nil ?_
            exact At.round (r803.n, r803.last, r803.win.ahead, r803.win.size, r804.b, r804.n, r804.at_, i836, O813, z806) j753 (Nat.lt_succ_self _) ⟨next1 h hn755, (Stp.trans (Stp.up hst738 rfl) (Stp.up hst816 rfl)), hb817, hf818, hb819⟩ (.cons rfl (.cons rfl (.cons rfl (.cons rfl .nil))))
         ·refine WC.condF' rfl hc770 ?_
          refine WC.exit ?_
          refine At.thenX ?_
          refine At.loopX ?_
          exact At.hitB (σ := (List UInt8 × Int × Int × Own × Value)) (c730, c733, c734, O736, v731) ⟨brk1 h hn755, (Stp.up hst738 rfl), hf732, hb729⟩ (.cons rfl .nil)
        ·rintro ⟨c740, c743, c744, O745, v741⟩ wd746 ⟨rfl, hst747, hf742, hb739⟩
         replace h := flowK_go hk750
         try dsimp only at h hst747 hf742 hb739
         refine (show At _ _ _ [(13, Value.pointer (some ⟨p718, 0, none⟩))] _ from ?_)
         refine At.inBlockHit ?_
         obtain ⟨O837, hst838, hb839⟩ := Blk.rlb 1011 rfl hb739
         have hf840 := hf742.mono (imm_st hst838 rfl rfl)
         exact At.join (σ := (List UInt8 × Int × Int × Own × Nat × Value)) (c740, c743, c744, O837, p718, v741) ⟨go2 h, (Stp.trans (Stp.up hst747 rfl) (Stp.up hst838 rfl)), hf840, hb839⟩ (.cons rfl .nil)
       ·rintro ⟨c707, c710, c711, O712, b705, v708⟩ wd713 ⟨rfl, hst714, hf709, hb706⟩
        replace h := flowK_go hk716
        try dsimp only at h hst714 hf709 hb706
        refine (show At _ _ _ [(13, Value.pointer (some ⟨b705, 0, none⟩))] _ from ?_)
        refine At.then ?_
        refine WC.seq ?_
        refine WC.region ?_
        refine WL.y (Y.move rfl) rfl ?_
        obtain ⟨r841, hp842, h⟩ := bnd h
        refine WL.call (vals := [Value.pointer (some ⟨b705, 0, none⟩)]) kok22 rfl rfl (c_bitio_Reader_Left (A := fun _ => True) (a0 := (bitio_Reader.mk c707 c710 c711)) (Sl.all hf709) hb706.blk trivial hp842) ?_
        rintro vr845 wd844 ⟨rfl, hm843⟩
        obtain ⟨O846, hold847, hnew848, hst849⟩ := adoptE O712 (fun k => 1) hm843
        refine WL.y (Y.eql_i rfl rfl) rfl ?_
        obtain ⟨t850, ht850, h⟩ := lt1 h
        refine WL.yE (Y.assign rfl) (congrArg Value.bool ht850.symm) rfl ?_
        refine WL.nil ?_
        refine At.then ?_
        refine WC.ret ?_
        obtain rfl := some1 h
        have hs851 : Stp [11, 12, 13, 14, 15, 16, 17, 18, 19, 20, 23, 24, 1001, 1002, 1003, 1004, 1005] (Lg.O0 A) w O846 wd844 := (Stp.trans (Stp.up hst22 rfl) (Stp.trans (Stp.up hst41 rfl) (Stp.trans (Stp.up hst54 rfl) (Stp.trans (Stp.up hst60 rfl) (Stp.trans (Stp.up hst62 rfl) (Stp.trans (Stp.up hst74 rfl) (Stp.trans (Stp.up hst535 rfl) (Stp.trans (Stp.up hst554 rfl) (Stp.trans (Stp.up hst572 rfl) (Stp.trans (Stp.up hst587 rfl) (Stp.trans (Stp.up hst665 rfl) (Stp.trans (Stp.up hst677 rfl) (Stp.trans (Stp.up hst690 rfl) (Stp.trans (Stp.up hst703 rfl) (Stp.trans (Stp.up hst714 rfl) (Stp.up hst849 rfl))))))))))))))))
        exact At.res (.inl rfl) rfl (.tmp rfl .nil) ⟨rfl, (Stp.ext hs851 rfl rfl)⟩

end Go.Lg
