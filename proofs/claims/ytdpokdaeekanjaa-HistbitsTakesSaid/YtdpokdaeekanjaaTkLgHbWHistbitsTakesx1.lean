/- The walks of HistbitsTakes and of what it calls, printed by gen.py. -/
import Derived.Test.YtdpokdaeekanjaaTkLgHbWHistbitsTakesx0
set_option linter.unusedVariables false
namespace Go.Lg
open Go Go.Proofs
set_option maxRecDepth 100000
set_option maxHeartbeats 4000000
theorem c_ref06_Class {a0 : UInt64} {w : World} {r0 : Int} (h : ref06_Class a0 = some r0) : Rets Try.prog 107 [vu a0] w (fun v w' => v = vi r0 ∧ Ext w w') := by
 unfold ref06_Class at h
 refine Rets.enter Try.func107 rfl rfl ?_
 refine (show WC _ _ _ _ [(0, vu a0)] _ from ?_)
 refine WC.seq ?_
 refine WC.region ?_
 refine WL.y (Y.assign rfl) rfl ?_
 refine WL.nil ?_
 refine At.then ?_
 refine WC.seq ?_
 refine WC.seq ?_
 refine WC.region ?_
 refine WL.y (Y.assign rfl) rfl ?_
 refine WL.nil ?_
 refine At.then ?_
 refine WC.block ?_
 obtain ⟨p18, h, hk20⟩ := flow1 h
 obtain ⟨k19, h⟩ := loop_some h
 refine WC.joinB 0 (σ := Own) (fun x w' => p18 = .go () ∧ Stp [] (Lg.O0 (fun _ => False)) w x w') (fun x => []) ?_ ?_
 ·refine WC.loop (σ := (Int × Own)) (fun x k w' => loopN k (ref06_Class_lp1 a0) x.1 = some p18 ∧ Stp [] (Lg.O0 (fun _ => False)) w x.2 w') (fun x => [(0, vu a0), (3, vi x.1)]) (0, (Lg.O0 (fun _ => False))) k19 (.cons rfl (.cons rfl .nil)) ⟨h, (Stp.refl _ _ _)⟩ ?_
  rintro ⟨c11, O12⟩ k19 wd13 ⟨h, hst14⟩
  obtain ⟨j21, q22, rfl, h, hn23⟩ := rnd1 h
  unfold ref06_Class_lp1 at h
  try dsimp only at h hst14
  refine (show WC _ _ _ _ [(0, vu a0), (3, vi c11)] _ from ?_)
  refine WC.seq ?_
  refine WC.seq ?_
  refine WC.region ?_
  refine WL.y (Y.move rfl) rfl ?_
  refine WL.y (Y.lss_i rfl rfl) rfl ?_
  refine WL.nil ?_
  refine At.then ?_
  rcases cnd h with ⟨hc24, h⟩ | ⟨hc24, h⟩
  ·refine WC.condT' rfl hc24 ?_
   refine WC.skip ?_
   refine At.then ?_
   refine WC.seq ?_
   refine WC.block ?_
   refine WC.seq ?_
   refine WC.region ?_
   refine WL.y (Y.move rfl) rfl ?_
   refine WL.y (Y.move rfl) rfl ?_
   obtain ⟨r25, hp26, h⟩ := bnd h
   refine WL.call (vals := [vi c11]) kok109 rfl rfl (c_ref06_size hp26) ?_
   rintro vr29 wd28 ⟨rfl, hm27⟩
   obtain ⟨O30, hold31, hnew32, hst33⟩ := adoptE O12 (fun k => 1) hm27
   obtain ⟨r34, hp35, h⟩ := bnd h
   refine WL.call (vals := [vi r25]) kok113 rfl rfl (c_ref06_power hp35) ?_
   rintro vr38 wd37 ⟨rfl, hm36⟩
   obtain ⟨O39, hold40, hnew41, hst42⟩ := adoptE O30 (fun k => 1) hm36
   refine WL.y (Y.lss_u rfl rfl) rfl ?_
   refine WL.nil ?_
   refine At.then ?_
   rcases cnd h with ⟨hc43, h⟩ | ⟨hc43, h⟩
   ·refine WC.condT' rfl hc43 ?_
    refine WC.seq ?_
    refine WC.region ?_
    refine WL.y (Y.move rfl) rfl ?_
    refine WL.y (Y.assign rfl) rfl ?_
    refine WL.nil ?_
    refine At.then ?_
    refine WC.ret ?_
    refine At.inBlockR ?_
    refine At.thenR ?_
    refine At.loopR ?_
    have h := outr1 h hn23 hk20
    refine At.joinBR ?_
    refine At.inBlockR ?_
    refine At.thenR ?_
    obtain rfl := some1 h
    have hs44 : Stp [] (Lg.O0 (fun _ => False)) w O39 wd37 := (Stp.trans (Stp.up hst14 rfl) (Stp.trans (Stp.up hst33 rfl) (Stp.up hst42 rfl)))
    exact At.res (.inl rfl) rfl (.tmp rfl .nil) ⟨rfl, (Stp.ext hs44 rfl rfl)⟩
   ·refine WC.condF' rfl hc43 ?_
    refine WC.skip ?_
    refine At.inBlock ?_
    refine At.then ?_
    refine WC.region ?_
    refine WL.y (Y.move rfl) rfl ?_
    refine WL.y (Y.add_i rfl rfl) rfl ?_
    obtain ⟨c45, hc45, h⟩ := lt1 h
    refine WL.yE (Y.assign rfl) (congrArg vi hc45.symm) rfl ?_
    refine WL.nil ?_
    exact At.round (c45, O39) j21 (Nat.lt_succ_self _) ⟨next1 h hn23, (Stp.trans (Stp.up hst14 rfl) (Stp.trans (Stp.up hst33 rfl) (Stp.up hst42 rfl)))⟩ (.cons rfl (.cons rfl .nil))
  ·refine WC.condF' rfl hc24 ?_
   refine WC.exit ?_
   refine At.thenX ?_
   refine At.loopX ?_
   exact At.hitB (σ := Own) O12 ⟨brk1 h hn23, (Stp.up hst14 rfl)⟩ .nil
 ·rintro O15 wd16 ⟨rfl, hst17⟩
  replace h := flowK_go hk20
  refine (show At _ _ _ [] _ from ?_)
  refine At.inBlockHit ?_
  refine At.then ?_
  refine WC.seq ?_
  refine WC.region ?_
  refine WL.y (Y.assign rfl) rfl ?_
  refine WL.nil ?_
  refine At.then ?_
  refine WC.ret ?_
  obtain rfl := some1 h
  have hs46 : Stp [] (Lg.O0 (fun _ => False)) w O15 wd16 := (Stp.up hst17 rfl)
  exact At.res (.inl rfl) rfl (.tmp rfl .nil) ⟨rfl, (Stp.ext hs46 rfl rfl)⟩
theorem c_ref06_GetSmall {A : Nat → Prop} {a0 : List Int} {v0 : Value} {w : World} (hs0 : Sl Rep.i w A v0 a0) {r0 : ref06_Got} (h : ref06_GetSmall a0 = some r0) : Rets Try.prog 102 [v0] w (fun v w' => v = Value.agg (List.toArray [vu r0.V, vi r0.N, vi r0.E]) ∧ Ext w w') := by
 unfold ref06_GetSmall at h
 refine Rets.enter Try.func102 rfl rfl ?_
 have hf11 : Sl Rep.i w (imm (Lg.O0 A)) v0 a0 := (Sl.start hs0)
 refine (show WC _ _ _ _ [(0, v0)] _ from ?_)
 refine WC.seq ?_
 refine WC.region ?_
 refine WL.alloc (O := (Lg.O0 A)) 11 [vu 0, vi 0, vi 0] ty132 rfl rfl ?_
 intro p13 O14 wd15 hst16 hb12
 refine WL.nil ?_
 refine At.then ?_
 refine WC.seq ?_
 refine WC.seq ?_
 refine WC.region ?_
 refine WL.y (Y.move rfl) rfl ?_
 have hf17 := hf11.mono (imm_st hst16 rfl rfl)
 refine WL.y (Y.len ty64 rfl hf17) rfl ?_
 refine WL.y (Y.lss_i rfl rfl) rfl ?_
 refine WL.nil ?_
 refine At.then ?_
 rcases cnd h with ⟨hc18, h⟩ | ⟨hc18, h⟩
 ·refine WC.condT' rfl hc18 ?_
  refine WC.seq ?_
  refine WC.region ?_
  refine WL.y (Y.build (vals := [(2, vi 2)]) (cells := [vu 0, vi 0, vi 2]) (Fits.evalp rfl) (by kernel_rfl)) rfl ?_
  refine WL.store (v := Value.agg (List.toArray [vu 0, vi 0, vi 2])) (cells' := [vu 0, vi 0, vi 2]) ty132 rfl rfl hb12 rfl (Nat.le_of_ble_eq_true rfl) rfl rfl ?_
  intro wd19 hst20 hb21
  refine WL.nil ?_
  refine At.then ?_
  refine WC.ret ?_
  refine At.thenR ?_
  obtain rfl := some1 h
  have hs22 : Stp [11] (Lg.O0 A) w O14 wd19 := (Stp.trans (Stp.up hst16 rfl) (Stp.up hst20 rfl))
  exact At.res (.inl rfl) rfl (.cell rfl (hb21.runAg 0 [vu 0, vi 0, vi 2] ty132 rfl rfl rfl) .nil) ⟨rfl, (Stp.ext hs22 rfl rfl)⟩
 ·refine WC.condF' rfl hc18 ?_
  refine WC.skip ?_
  refine At.then ?_
  refine WC.seq ?_
  refine WC.draw 8 O14 fmix (by kernel_rfl) ?_
  intro wd23 hst24
  refine WS.y (Y.move rfl) rfl ?_
  obtain ⟨e25, he25, h⟩ := bnd h
  have hf34 := hf17.mono (imm_st hst24 rfl rfl)
  obtain ⟨b26, off35, cap33, cs32, hv27, hi28, hl29, hc30, hok31, hA36⟩ := Sl.at2 hf34 he25
  obtain rfl := hok31
  replace hc30 : CellsAt _ _ _ [vi e25] := hc30
  have hca37 := CAt.imm hc30 hA36
  refine WS.y (Y.indexAddr ty64 ty3 rfl hv27 rfl hi28 hl29) rfl ?_
  refine WS.y (Y.loadSc ty3 rfl rfl hca37.at_) rfl ?_
  refine WS.y (Y.mul_i rfl rfl) rfl ?_
  refine WS.y (Y.move rfl) rfl ?_
  obtain ⟨e38, he38, h⟩ := bnd h
  obtain ⟨b39, off47, cap46, cs45, hv40, hi41, hl42, hc43, hok44, hA48⟩ := Sl.at2 hf34 he38
  obtain rfl := hok44
  replace hc43 : CellsAt _ _ _ [vi e38] := hc43
  have hca49 := CAt.imm hc43 hA48
  refine WS.y (Y.indexAddr ty64 ty3 rfl hv40 rfl hi41 hl42) rfl ?_
  refine WS.y (Y.loadSc ty3 rfl rfl hca49.at_) rfl ?_
  refine WS.y (Y.add_i rfl rfl) rfl ?_
  refine WS.tail ?_
  obtain ⟨c50, hc50, h⟩ := lt1 h
  refine WL.yE (Y.assign rfl) (congrArg vi hc50.symm) rfl ?_
  refine WL.nil ?_
  refine At.then ?_
  refine WC.seq ?_
  refine WC.region ?_
  refine WL.y (Y.move rfl) rfl ?_
  obtain ⟨r51, hp52, h⟩ := bnd h
  refine WL.call (vals := [vi c50]) kok109 rfl rfl (c_ref06_size hp52) ?_
  rintro vr55 wd54 ⟨rfl, hm53⟩
  obtain ⟨O56, hold57, hnew58, hst59⟩ := adoptE O14 (fun k => 1) hm53
  refine WL.y (Y.assign rfl) rfl ?_
  refine WL.nil ?_
  refine At.then ?_
  refine WC.seq ?_
  refine WC.seq ?_
  refine WC.region ?_
  refine WL.y (Y.move rfl) rfl ?_
  have hf60 := hf34.mono (imm_st hst59 rfl rfl)
  refine WL.y (Y.len ty64 rfl hf60) rfl ?_
  refine WL.y (Y.sub_i rfl rfl) rfl ?_
  refine WL.y (Y.move rfl) rfl ?_
  refine WL.y (Y.lss_i rfl rfl) rfl ?_
  refine WL.nil ?_
  refine At.then ?_
  rcases cnd h with ⟨hc61, h⟩ | ⟨hc61, h⟩
  ·refine WC.condT' rfl hc61 ?_
   refine WC.seq ?_
   refine WC.region ?_
   refine WL.y (Y.build (vals := [(2, vi 2)]) (cells := [vu 0, vi 0, vi 2]) (Fits.evalp rfl) (by kernel_rfl)) rfl ?_
   have hf62 := hb12.st hst24 rfl
   have hf63 := hf62.st hst59 rfl
   refine WL.store (v := Value.agg (List.toArray [vu 0, vi 0, vi 2])) (cells' := [vu 0, vi 0, vi 2]) ty132 rfl rfl hf63 rfl (Nat.le_of_ble_eq_true rfl) rfl rfl ?_
   intro wd64 hst65 hb66
   refine WL.nil ?_
   refine At.then ?_
   refine WC.ret ?_
   refine At.thenR ?_
   obtain rfl := some1 h
   have hs67 : Stp [11] (Lg.O0 A) w O56 wd64 := (Stp.trans (Stp.up hst16 rfl) (Stp.trans (Stp.up hst24 rfl) (Stp.trans (Stp.up hst59 rfl) (Stp.up hst65 rfl))))
   exact At.res (.inl rfl) rfl (.cell rfl (hb66.runAg 0 [vu 0, vi 0, vi 2] ty132 rfl rfl rfl) .nil) ⟨rfl, (Stp.ext hs67 rfl rfl)⟩
  ·refine WC.condF' rfl hc61 ?_
   refine WC.skip ?_
   refine At.then ?_
   refine WC.seq ?_
   refine WC.region ?_
   refine WL.y (Y.move rfl) rfl ?_
   refine WL.y (Y.move rfl) rfl ?_
   refine WL.y (Y.add_i rfl rfl) rfl ?_
   obtain ⟨t68, ht68, h⟩ := bnd h
   obtain ⟨v69, hY71, hf70⟩ := Sl.slice (ρ := [(26, v0), (28, vi (w64 (2 + r51)))]) (x := (.tmp 26)) (lo := (some (.const (.int .i64 2)))) (hi := (some (.tmp 28))) ty64 ty3 rfl rfl rfl hf60 ht68
   refine WL.y (Y.sub (.cons rfl (.cons rfl .nil)) (hY71 _ _)) rfl ?_
   obtain ⟨r72, hp73, h⟩ := bnd h
   refine WL.call (vals := [v69]) kok101 rfl rfl (c_ref01_Number (A := fun _ => True) (Sl.all hf70) hp73) ?_
   rintro vr76 wd75 ⟨rfl, hm74⟩
   obtain ⟨O77, hold78, hnew79, hst80⟩ := adoptE O56 (fun k => 1) hm74
   refine WL.y (Y.assign rfl) rfl ?_
   refine WL.nil ?_
   refine At.then ?_
   refine WC.seq ?_
   refine WC.seq ?_
   refine WC.region ?_
   refine WL.y (Y.move rfl) rfl ?_
   obtain ⟨r81, hp82, h⟩ := bnd h
   refine WL.call (vals := [vu r72]) kok107 rfl rfl (c_ref06_Class hp82) ?_
   rintro vr85 wd84 ⟨rfl, hm83⟩
   obtain ⟨O86, hold87, hnew88, hst89⟩ := adoptE O77 (fun k => 1) hm83
   refine WL.y (Y.move rfl) rfl ?_
   refine WL.y (Y.neq_i rfl rfl) rfl ?_
   refine WL.nil ?_
   refine At.then ?_
   rcases cnd h with ⟨hc90, h⟩ | ⟨hc90, h⟩
   ·refine WC.condT' rfl hc90 ?_
    refine WC.seq ?_
    refine WC.region ?_
    refine WL.y (Y.build (vals := [(2, vi 3)]) (cells := [vu 0, vi 0, vi 3]) (Fits.evalp rfl) (by kernel_rfl)) rfl ?_
    have hf91 := hb12.st hst24 rfl
    have hf92 := hf91.st hst59 rfl
    have hf93 := hf92.st hst80 rfl
    have hf94 := hf93.st hst89 rfl
    refine WL.store (v := Value.agg (List.toArray [vu 0, vi 0, vi 3])) (cells' := [vu 0, vi 0, vi 3]) ty132 rfl rfl hf94 rfl (Nat.le_of_ble_eq_true rfl) rfl rfl ?_
    intro wd95 hst96 hb97
    refine WL.nil ?_
    refine At.then ?_
    refine WC.ret ?_
    refine At.thenR ?_
    obtain rfl := some1 h
    have hs98 : Stp [11] (Lg.O0 A) w O86 wd95 := (Stp.trans (Stp.up hst16 rfl) (Stp.trans (Stp.up hst24 rfl) (Stp.trans (Stp.up hst59 rfl) (Stp.trans (Stp.up hst80 rfl) (Stp.trans (Stp.up hst89 rfl) (Stp.up hst96 rfl))))))
    exact At.res (.inl rfl) rfl (.cell rfl (hb97.runAg 0 [vu 0, vi 0, vi 3] ty132 rfl rfl rfl) .nil) ⟨rfl, (Stp.ext hs98 rfl rfl)⟩
   ·refine WC.condF' rfl hc90 ?_
    refine WC.skip ?_
    refine At.then ?_
    refine WC.seq ?_
    refine WC.region ?_
    refine WL.y (Y.move rfl) rfl ?_
    refine WL.y (Y.move rfl) rfl ?_
    refine WL.y (Y.add_i rfl rfl) rfl ?_
    refine WL.y (Y.build (vals := [(0, vu r72), (1, vi (w64 (2 + r51)))]) (cells := [vu r72, vi (w64 (2 + r51)), vi 0]) (Fits.evalp rfl) (by kernel_rfl)) rfl ?_
    have hf99 := hb12.st hst24 rfl
    have hf100 := hf99.st hst59 rfl
    have hf101 := hf100.st hst80 rfl
    have hf102 := hf101.st hst89 rfl
    refine WL.store (v := Value.agg (List.toArray [vu r72, vi (w64 (2 + r51)), vi 0])) (cells' := [vu r72, vi (w64 (2 + r51)), vi 0]) ty132 rfl rfl hf102 rfl (Nat.le_of_ble_eq_true rfl) rfl rfl ?_
    intro wd103 hst104 hb105
    refine WL.nil ?_
    refine At.then ?_
    refine WC.ret ?_
    obtain rfl := some1 h
    have hs106 : Stp [11] (Lg.O0 A) w O86 wd103 := (Stp.trans (Stp.up hst16 rfl) (Stp.trans (Stp.up hst24 rfl) (Stp.trans (Stp.up hst59 rfl) (Stp.trans (Stp.up hst80 rfl) (Stp.trans (Stp.up hst89 rfl) (Stp.up hst104 rfl))))))
    exact At.res (.inl rfl) rfl (.cell rfl (hb105.runAg 0 [vu r72, vi (w64 (2 + r51)), vi 0] ty132 rfl rfl rfl) .nil) ⟨rfl, (Stp.ext hs106 rfl rfl)⟩
theorem c_ref10_State_small {A : Nat → Prop} {v0_0 : Value} {a0 : ref10_State} {b0 : Nat} {w : World} (hs0_0 : Sl Rep.i w A v0_0 a0.L) (hb0 : w.heap[b0]? = some (.cells (List.toArray [v0_0, vi a0.At, vi a0.E]) 110 (0, 0))) (hA : ∀ k, A k → k ≠ b0) {r0 : UInt64} {q0 : ref10_State} (h : ref10_State_small a0 = some (r0, q0)) : Rets Try.prog 79 [Value.pointer (some ⟨b0, 0, none⟩)] w (fun v w' => ∃ (z0_0 : Value), v = vu r0 ∧ Mod (fun k => k = b0) w w' ∧ Sl Rep.i w' (fun k => A k ∨ w.heap.size ≤ k) z0_0 q0.L ∧ w'.heap[b0]? = some (.cells (List.toArray [z0_0, vi q0.At, vi q0.E]) 110 (0, 0))) := by
 unfold ref10_State_small at h
 refine Rets.enter Try.func79 rfl rfl ?_
 have hf11 : Sl Rep.i w (imm (Lg.OB b0 3 (Lg.O0 A))) v0_0 a0.L := (Sl.OB (Sl.start hs0_0) (fun k hk => (hA k (O0_A k hk))))
 have hb12 : Blk 3 (Lg.OB b0 3 (Lg.O0 A)) w b0 110 [v0_0, vi a0.At, vi a0.E] := ⟨(if_pos rfl), hb0⟩
 refine (show WC _ _ _ _ [(0, Value.pointer (some ⟨b0, 0, none⟩))] _ from ?_)
 refine WC.seq ?_
 refine WC.region ?_
 refine WL.y (Y.assign (v := vu 0) rfl) rfl ?_
 refine WL.nil ?_
 refine At.then ?_
 refine WC.seq ?_
 refine WC.seq ?_
 refine WC.region ?_
 refine WL.y (Y.move rfl) rfl ?_
 refine WL.y (Y.nilCheck rfl) rfl ?_
 refine WL.y (Y.fieldAddr fo110_2 rfl) rfl ?_
 refine WL.y (Y.loadSc ty32 rfl rfl (hb12.cell 2 _ rfl)) rfl ?_
 refine WL.y (Y.neq_i rfl rfl) rfl ?_
 refine WL.nil ?_
 refine At.then ?_
 rcases cnd h with ⟨hc13, h⟩ | ⟨hc13, h⟩
 ·refine WC.condT' rfl hc13 ?_
  refine WC.seq ?_
  refine WC.region ?_
  refine WL.y (Y.assign (v := vu 0) rfl) rfl ?_
  refine WL.nil ?_
  refine At.then ?_
  refine WC.ret ?_
  refine At.thenR ?_
  obtain ⟨rfl, rfl⟩ := tup2 h
  have hs14 : Stp [] (Lg.OB b0 3 (Lg.O0 A)) w (Lg.OB b0 3 (Lg.O0 A)) w := (Stp.refl _ _ _)
  exact At.res (.inl rfl) rfl (.tmp rfl .nil) ⟨v0_0, rfl, (Stp.modL hs14 sB1 rfl rfl), (Sl.outI hf11 hs14 (lowB low0 rfl rfl) (aB O0_A rfl)), hb12.blk⟩
 ·refine WC.condF' rfl hc13 ?_
  refine WC.skip ?_
  refine At.then ?_
  refine WC.seq ?_
  refine WC.drawH [11, 12] [0, 1, 2, 3, 4, 5, 6, 7, 8, 9, 10] (Lg.OB b0 3 (Lg.O0 A)) 12 fmix rfl (by kernel_rfl) ?_
  intro wd15 hst16
  refine WD.y 0 rfl (by kernel_rfl) (fun _ _ _ => Y.move rfl) rfl ?_
  refine WD.y 1 rfl (by kernel_rfl) (fun _ _ _ => Y.nilCheck rfl) rfl ?_
  refine WD.y 2 rfl (by kernel_rfl) (fun _ _ _ => Y.fieldAddr fo110_0 rfl) rfl ?_
  refine WD.y 3 rfl (by kernel_rfl) (fun wd27 O26 hst28 => have hf29 := hb12.st hst16 rfl; have hf30 := hf29.st hst28 rfl; Y.loadSc ty64 rfl rfl (hf30.cell 0 _ rfl)) rfl ?_
  refine WD.y 4 rfl (by kernel_rfl) (fun _ _ _ => Y.move rfl) rfl ?_
  refine WD.y 5 rfl (by kernel_rfl) (fun _ _ _ => Y.nilCheck rfl) rfl ?_
  refine WD.y 6 rfl (by kernel_rfl) (fun _ _ _ => Y.fieldAddr fo110_1 rfl) rfl ?_
  refine WD.y 7 rfl (by kernel_rfl) (fun wd41 O40 hst42 => have hf43 := hb12.st hst16 rfl; have hf44 := hf43.st hst42 rfl; Y.loadSc ty3 rfl rfl (hf44.cell 1 _ rfl)) rfl ?_
  obtain ⟨t45, ht45, h⟩ := bnd h
  have hf48 := hf11.mono (imm_st hst16 rfl rfl)
  obtain ⟨v46, hY49, hf47⟩ := Sl.slice (ρ := [(12, v0_0), (16, vi a0.At)]) (x := (.tmp 12)) (lo := (some (.tmp 16))) (hi := none) ty64 ty3 rfl rfl rfl hf48 ht45
  refine WD.y 8 rfl (by kernel_rfl) (fun _ _ _ => Y.sub (.cons rfl (.cons rfl .nil)) (hY49 _ _)) rfl ?_
  obtain ⟨p61, h, hk62⟩ := bnd h
  refine WD.join (σ := (UInt64 × Int × Int × Own × Nat)) (f' := 1) [10, 9, 8, 7, 6, 5, 4, 3, 2, 1, 0] (fun x O' w' => (x.1, x.2.1, x.2.2.1) = p61 ∧ Stp [11, 12] (Lg.OB b0 3 (Lg.O0 A)) wd15 x.2.2.2.1 w' ∧ Blk 1001 x.2.2.2.1 w' x.2.2.2.2 132 [vu 0, vi 0, vi 0] ∧ x.2.2.2.1 = O') (fun x => [(0, Value.pointer (some ⟨b0, 0, none⟩)), (3, Value.pointer (some ⟨x.2.2.2.2, 0, none⟩)), (18, Value.agg (List.toArray [vu x.1, vi x.2.1, vi x.2.2.1]))]) (fun hJ63 => ?_) ?_
  ·refine WD.heavy2 9 10 rfl rfl (by kernel_rfl) ?_ ?_
   ·obtain ⟨r64, hp65, h⟩ := bnd h
    refine WL.call (vals := [v46]) kok102 rfl rfl (c_ref06_GetSmall (A := fun _ => True) (Sl.all hf47) hp65) ?_
    rintro vr68 wd67 ⟨rfl, hm66⟩
    obtain ⟨O69, hold70, hnew71, hst72⟩ := adoptE (Lg.OB b0 3 (Lg.O0 A)) (fun k => 1) hm66
    refine WL.nil ?_
    refine At.dq (Stp.up hst72 rfl) ?_
    refine WD.heavy 10 rfl (by kernel_rfl) ?_
    refine WL.alloc (O := O69) 11 [vu 0, vi 0, vi 0] ty132 rfl rfl ?_
    intro p74 O75 wd76 hst77 hb73
    refine WL.nil ?_
    refine At.dq (Stp.up hst77 rfl) ?_
    obtain ⟨O78, hst79, hb80⟩ := Blk.rlb 1001 rfl hb73
    refine WD.own (Stp.up hst79 rfl) ?_
    refine WD.perm _ [10, 9, 8, 7, 6, 5, 4, 3, 2, 1, 0] (by kernel_rfl) ?_
    exact hJ63 (r64.V, r64.N, r64.E, O78, p74) _ _ _ ⟨some1 h, (Stp.trans (Stp.up hst72 rfl) (Stp.trans (Stp.up hst77 rfl) (Stp.up hst79 rfl))), hb80, rfl⟩ (.cons rfl (.cons rfl (.cons rfl .nil)))
   ·try simp only [Option.bind_assoc] at h
    try simp only [Option.bind_some] at h
    refine WL.alloc (O := (Lg.OB b0 3 (Lg.O0 A))) 12 [vu 0, vi 0, vi 0] ty132 rfl rfl ?_
    intro p82 O83 wd84 hst85 hb81
    refine WL.nil ?_
    refine At.dq (Stp.up hst85 rfl) ?_
    refine WD.heavy 9 rfl (by kernel_rfl) ?_
    have hf86 := hf47.mono (imm_st hst85 rfl rfl)
    obtain ⟨r87, hp88, h⟩ := bnd h
    refine WL.call (vals := [v46]) kok102 rfl rfl (c_ref06_GetSmall (A := fun _ => True) (Sl.all hf86) hp88) ?_
    rintro vr91 wd90 ⟨rfl, hm89⟩
    obtain ⟨O92, hold93, hnew94, hst95⟩ := adoptE O83 (fun k => 1) hm89
    refine WL.nil ?_
    refine At.dq (Stp.up hst95 rfl) ?_
    have hf96 := hb81.st hst95 rfl
    obtain ⟨O97, hst98, hb99⟩ := Blk.rlb 1001 rfl hf96
    refine WD.own (Stp.up hst98 rfl) ?_
    refine WD.perm _ [10, 9, 8, 7, 6, 5, 4, 3, 2, 1, 0] (by kernel_rfl) ?_
    exact hJ63 (r87.V, r87.N, r87.E, O97, p82) _ _ _ ⟨some1 h, (Stp.trans (Stp.up hst85 rfl) (Stp.trans (Stp.up hst95 rfl) (Stp.up hst98 rfl))), hb99, rfl⟩ (.cons rfl (.cons rfl (.cons rfl .nil)))
  ·rintro ⟨x55, x56, x57, O58, b53⟩ _ wd59 ⟨rfl, hst60, hb54, rfl⟩
   replace h := hk62
   try dsimp only at h hst60 hb54
   refine (show WD _ _ _ _ _ _ _ _ [(0, Value.pointer (some ⟨b0, 0, none⟩)), (3, Value.pointer (some ⟨b53, 0, none⟩)), (18, Value.agg (List.toArray [vu x55, vi x56, vi x57]))] _ _ from ?_)
   refine WD.phase [1001] [0, 1, 2, 3, 4, 5, 6, 7, 8, 9, 10, 11] (by kernel_rfl) (by kernel_rfl) ?_
   refine WD.heavy 11 rfl (by kernel_rfl) ?_
   refine WL.store (v := Value.agg (List.toArray [vu x55, vi x56, vi x57])) (cells' := [vu x55, vi x56, vi x57]) ty132 rfl rfl hb54 rfl (Nat.le_of_ble_eq_true rfl) rfl rfl ?_
   intro wd100 hst101 hb102
   refine WL.nil ?_
   refine At.dq (Stp.up hst101 rfl) ?_
   refine WD.done_ (by kernel_rfl) ?_
   refine At.then ?_
   refine WC.seq ?_
   refine WC.region ?_
   refine WL.y (Y.move rfl) rfl ?_
   refine WL.y (Y.fieldAddr fo132_2 rfl) rfl ?_
   refine WL.y (Y.loadSc ty32 rfl rfl (hb102.cell 2 _ rfl)) rfl ?_
   refine WL.y (Y.nilCheck rfl) rfl ?_
   refine WL.y (Y.fieldAddr fo110_2 rfl) rfl ?_
   have hf103 := hb12.st hst16 rfl
   have hf104 := hf103.st hst60 rfl
   have hf105 := hf104.st hst101 rfl
   refine WL.store (v := vi x57) (cells' := [v0_0, vi a0.At, vi x57]) ty32 rfl rfl hf105 rfl (Nat.le_of_ble_eq_true rfl) rfl rfl ?_
   intro wd106 hst107 hb108
   refine WL.nil ?_
   refine At.then ?_
   refine WC.seq ?_
   refine WC.draw 10 O58 fmix (by kernel_rfl) ?_
   intro wd109 hst110
   refine WS.y (Y.move rfl) rfl ?_
   refine WS.y (Y.move rfl) rfl ?_
   refine WS.y (Y.nilCheck rfl) rfl ?_
   refine WS.y (Y.fieldAddr fo110_1 rfl) rfl ?_
   have hf111 := hb108.st hst110 rfl
   refine WS.y (Y.loadSc ty3 rfl rfl (hf111.cell 1 _ rfl)) rfl ?_
   refine WS.y (Y.fieldAddr fo132_1 rfl) rfl ?_
   have hf112 := hb102.st hst107 rfl
   have hf113 := hf112.st hst110 rfl
   refine WS.y (Y.loadSc ty3 rfl rfl (hf113.cell 1 _ rfl)) rfl ?_
   refine WS.y (Y.add_i rfl rfl) rfl ?_
   refine WS.y (Y.nilCheck rfl) rfl ?_
   refine WS.y (Y.fieldAddr fo110_1 rfl) rfl ?_
   refine WS.tail ?_
   obtain ⟨t114, ht114, h⟩ := lt1 h
   refine WL.ren 31 rfl (congrArg vi ht114.symm) ?_
   refine WL.store (v := vi t114) (cells' := [v0_0, vi t114, vi x57]) ty3 rfl rfl hf111 rfl (Nat.le_of_ble_eq_true rfl) rfl rfl ?_
   intro wd115 hst116 hb117
   refine WL.nil ?_
   refine At.then ?_
   refine WC.seq ?_
   refine WC.region ?_
   refine WL.y (Y.fieldAddr fo132_0 rfl) rfl ?_
   have hf118 := hf113.st hst116 rfl
   refine WL.y (Y.loadSc ty22 rfl rfl (hf118.cell 0 _ rfl)) rfl ?_
   refine WL.y (Y.assign rfl) rfl ?_
   refine WL.nil ?_
   refine At.then ?_
   refine WC.ret ?_
   obtain ⟨rfl, rfl⟩ := tup2 h
   have hs119 : Stp [3, 11, 12, 1001] (Lg.OB b0 3 (Lg.O0 A)) w O58 wd115 := (Stp.trans (Stp.up hst16 rfl) (Stp.trans (Stp.up hst60 rfl) (Stp.trans (Stp.up hst101 rfl) (Stp.trans (Stp.up hst107 rfl) (Stp.trans (Stp.up hst110 rfl) (Stp.up hst116 rfl))))))
   have hf120 := hf48.mono (imm_st hst60 rfl rfl)
   have hf121 := hf120.mono (imm_st hst101 rfl rfl)
   have hf122 := hf121.mono (imm_st hst107 rfl rfl)
   have hf123 := hf122.mono (imm_st hst110 rfl rfl)
   have hf124 := hf123.mono (imm_st hst116 rfl rfl)
   exact At.res (.inl rfl) rfl (.tmp rfl .nil) ⟨v0_0, rfl, (Stp.modL hs119 sB1 rfl rfl), (Sl.outI hf124 hs119 (lowB low0 rfl rfl) (aB O0_A rfl)), hb117.blk⟩
theorem c_ref02_Zag {a0 : UInt64} {w : World} {r0 : Int} (h : ref02_Zag a0 = some r0) : Rets Try.prog 80 [vu a0] w (fun v w' => v = vi r0 ∧ Ext w w') := by
 unfold ref02_Zag at h
 refine Rets.enter Try.func80 rfl rfl ?_
 refine (show WC _ _ _ _ [(0, vu a0)] _ from ?_)
 refine WC.seq ?_
 refine WC.region ?_
 refine WL.y (Y.assign rfl) rfl ?_
 refine WL.nil ?_
 refine At.then ?_
 refine WC.seq ?_
 refine WC.seq ?_
 refine WC.region ?_
 refine WL.y (Y.move rfl) rfl ?_
 refine WL.y (Y.rem_u (b := 2) (by decide) rfl rfl) rfl ?_
 refine WL.y (Y.eql_u (b := 0) rfl rfl) rfl ?_
 refine WL.nil ?_
 refine At.then ?_
 rcases cnd h with ⟨hc11, h⟩ | ⟨hc11, h⟩
 ·refine WC.condT' rfl hc11 ?_
  refine WC.seq ?_
  refine WC.region ?_
  refine WL.y (Y.move rfl) rfl ?_
  refine WL.y (Y.quo_u (b := 2) (by decide) rfl rfl) rfl ?_
  refine WL.y (Y.conv_ui ty22.u ty3.u rfl) rfl ?_
  obtain ⟨t12, ht12, h⟩ := lt1 h
  refine WL.yE (Y.assign rfl) (congrArg vi ht12.symm) rfl ?_
  refine WL.nil ?_
  refine At.then ?_
  refine WC.ret ?_
  refine At.thenR ?_
  obtain rfl := some1 h
  have hs13 : Stp [] (Lg.O0 (fun _ => False)) w (Lg.O0 (fun _ => False)) w := (Stp.refl _ _ _)
  exact At.res (.inl rfl) rfl (.tmp rfl .nil) ⟨rfl, (Stp.ext hs13 rfl rfl)⟩
 ·refine WC.condF' rfl hc11 ?_
  refine WC.skip ?_
  refine At.then ?_
  refine WC.seq ?_
  refine WC.region ?_
  refine WL.y (Y.move rfl) rfl ?_
  refine WL.y (Y.quo_u (b := 2) (by decide) rfl rfl) rfl ?_
  refine WL.y (Y.conv_ui ty22.u ty3.u rfl) rfl ?_
  refine WL.y (Y.sub_i rfl rfl) rfl ?_
  obtain ⟨t14, ht14, h⟩ := lt1 h
  refine WL.yE (Y.assign rfl) (congrArg vi ht14.symm) rfl ?_
  refine WL.nil ?_
  refine At.then ?_
  refine WC.ret ?_
  obtain rfl := some1 h
  have hs15 : Stp [] (Lg.O0 (fun _ => False)) w (Lg.O0 (fun _ => False)) w := (Stp.refl _ _ _)
  exact At.res (.inl rfl) rfl (.tmp rfl .nil) ⟨rfl, (Stp.ext hs15 rfl rfl)⟩
theorem c_ref10_State_side {A : Nat → Prop} {v0_0 : Value} {a0 : ref10_State} {b0 : Nat} {w : World} (hs0_0 : Sl Rep.i w A v0_0 a0.L) (hb0 : w.heap[b0]? = some (.cells (List.toArray [v0_0, vi a0.At, vi a0.E]) 110 (0, 0))) (hA : ∀ k, A k → k ≠ b0) {r0 : api_Side} {q0 : ref10_State} (h : ref10_State_side a0 = some (r0, q0)) : Rets Try.prog 78 [Value.pointer (some ⟨b0, 0, none⟩)] w (fun v w' => ∃ (u0_1 : Value) (z0_0 : Value), v = Value.agg (List.toArray [vi r0.Offset, u0_1]) ∧ Mod (fun k => k = b0) w w' ∧ RowF Rep.u 22 w w' u0_1 r0.Counts ∧ Sl Rep.i w' (fun k => (k < w.heap.size ∧ A k) ∨ (w.heap.size ≤ k ∧ Value.ownBlock u0_1 ≠ some k)) z0_0 q0.L ∧ w'.heap[b0]? = some (.cells (List.toArray [z0_0, vi q0.At, vi q0.E]) 110 (0, 0))) := by
 unfold ref10_State_side at h
 refine Rets.enter Try.func78 rfl rfl ?_
 have hf11 : Sl Rep.i w (imm (Lg.OB b0 3 (Lg.O0 A))) v0_0 a0.L := (Sl.OB (Sl.start hs0_0) (fun k hk => (hA k (O0_A k hk))))
 have hb12 : Blk 3 (Lg.OB b0 3 (Lg.O0 A)) w b0 110 [v0_0, vi a0.At, vi a0.E] := ⟨(if_pos rfl), hb0⟩
 refine (show WC _ _ _ _ [(0, Value.pointer (some ⟨b0, 0, none⟩))] _ from ?_)
 refine WC.seq ?_
 refine WC.region ?_
 refine WL.alloc (O := (Lg.OB b0 3 (Lg.O0 A))) 11 [vi 0, Value.slice none 0 0] ty25 rfl rfl ?_
 intro p14 O15 wd16 hst17 hb13
 refine WL.nil ?_
 refine At.then ?_
 refine WC.seq ?_
 refine WC.region ?_
 refine WL.y (Y.move rfl) rfl ?_
 have hf18 := hb12.st hst17 rfl
 have hf19 := hf11.mono (imm_st hst17 rfl rfl)
 obtain ⟨⟨r20, r21⟩, hp22, h⟩ := bnd h
 refine WL.call (vals := [Value.pointer (some ⟨b0, 0, none⟩), vi 8]) kok76 rfl rfl (c_ref10_State_bits (A := imm O15) (a0 := a0) hf19 hf18.blk (fun k hk => imm_ne hf18.lab rfl k hk) hp22) ?_
 rintro vr28 wd27 ⟨z23, rfl, hm26, f24, f25⟩
 obtain ⟨O29, hold30, hnew31, hst32⟩ := adopt O15 (fun k => 1) [3] hm26 (memB hf18.lab rfl)
 have hf33 : Sl Rep.i wd27 (imm O29) z23 r21.L := Sl.adoptI (O := O15) f24 (fun _ hk => hk) (fun _ _ => Nat.le_refl _) hold30 hnew31
 have hb34 : Blk 3 O29 wd27 b0 110 [z23, vi r21.At, vi r21.E] := Blk.adopt hf18 hold30 f25
 refine WL.y (Y.assign rfl) rfl ?_
 refine WL.nil ?_
 refine At.then ?_
 refine WC.seq ?_
 obtain ⟨p40, h, hk41⟩ := bnd h
 refine WC.join (σ := (Int × Own)) (fun x w' => x.1 = p40 ∧ Stp [3] O29 wd27 x.2 w' ∧ Blk 3 x.2 w' b0 110 [z23, vi r21.At, vi x.1]) (fun x => [(0, Value.pointer (some ⟨b0, 0, none⟩)), (2, Value.pointer (some ⟨p14, 0, none⟩)), (3, vi r20)]) ?_ ?_
 ·refine WC.seq ?_
  refine WC.region ?_
  refine WL.y (Y.move rfl) rfl ?_
  refine WL.y (Y.nilCheck rfl) rfl ?_
  refine WL.y (Y.fieldAddr fo110_2 rfl) rfl ?_
  refine WL.y (Y.loadSc ty32 rfl rfl (hb34.cell 2 _ rfl)) rfl ?_
  refine WL.y (Y.eql_i rfl rfl) rfl ?_
  refine WL.y (Y.move rfl) rfl ?_
  refine WL.cut 3 (σ := Unit) (fun _ w' => wd27 = w') (fun _ => [(0, Value.pointer (some ⟨b0, 0, none⟩)), (2, Value.pointer (some ⟨p14, 0, none⟩)), (3, vi r20), (16, Value.bool ((decide (r21.E = 0)) && (decide (160 < r20))))]) ?_ ?_
  ·refine WL.part 13 rfl (fun hE42 => ?_) (fun hE42 => ?_)
   ·refine WL.ung rfl rfl ?_
    refine WL.y (Y.move rfl) rfl ?_
    refine WL.ung rfl rfl ?_
    refine WL.y (Y.gtr_i rfl rfl) rfl ?_
    refine WL.y (Y.pick (b := true) rfl rfl) rfl ?_
    refine WL.ren (v' := Value.bool ((decide (r21.E = 0)) && (decide (160 < r20)))) 16 rfl (congrArg Value.bool (andT hE42)) ?_
    exact WL.nil (At.join () rfl (.cons rfl (.cons rfl (.cons rfl (.cons rfl .nil)))))
   ·refine WL.gS rfl rfl rfl rfl ?_
    refine WL.gS rfl rfl rfl rfl ?_
    refine WL.y (Y.pick (b := false) rfl rfl) rfl ?_
    refine WL.ren (v' := Value.bool ((decide (r21.E = 0)) && (decide (160 < r20)))) 16 rfl (congrArg Value.bool (andF hE42)) ?_
    exact WL.nil (At.join () rfl (.cons rfl (.cons rfl (.cons rfl (.cons rfl .nil)))))
  ·rintro _ _ rfl
   refine (show WL _ _ _ _ _ [(0, Value.pointer (some ⟨b0, 0, none⟩)), (2, Value.pointer (some ⟨p14, 0, none⟩)), (3, vi r20), (16, Value.bool ((decide (r21.E = 0)) && (decide (160 < r20))))] _ from ?_)
   refine WL.nil ?_
   refine At.then ?_
   rcases cnd h with ⟨hc43, h⟩ | ⟨hc43, h⟩
   ·refine WC.condT' rfl hc43 ?_
    refine WC.region ?_
    refine WL.y (Y.move rfl) rfl ?_
    refine WL.y (Y.nilCheck rfl) rfl ?_
    refine WL.y (Y.fieldAddr fo110_2 rfl) rfl ?_
    refine WL.store (v := vi 4) (cells' := [z23, vi r21.At, vi 4]) ty32 rfl rfl hb34 rfl (Nat.le_of_ble_eq_true rfl) rfl rfl ?_
    intro wd44 hst45 hb46
    refine WL.nil ?_
    exact At.join (σ := (Int × Own)) (4, O29) ⟨some1 h, (Stp.up hst45 rfl), hb46⟩ (.cons rfl (.cons rfl (.cons rfl .nil)))
   ·refine WC.condF' rfl hc43 ?_
    refine WC.skip ?_
    exact At.join (σ := (Int × Own)) (r21.E, O29) ⟨some1 h, (Stp.refl _ _ _), hb34⟩ (.cons rfl (.cons rfl (.cons rfl .nil)))
 ·rintro ⟨c36, O37⟩ wd38 ⟨rfl, hst39, hb35⟩
  replace h := hk41
  try dsimp only at h hst39 hb35
  refine (show At _ _ _ [(0, Value.pointer (some ⟨b0, 0, none⟩)), (2, Value.pointer (some ⟨p14, 0, none⟩)), (3, vi r20)] _ from ?_)
  refine At.then ?_
  refine WC.seq ?_
  refine WC.seq ?_
  refine WC.region ?_
  refine WL.y (Y.move rfl) rfl ?_
  refine WL.y (Y.nilCheck rfl) rfl ?_
  refine WL.y (Y.fieldAddr fo110_2 rfl) rfl ?_
  refine WL.y (Y.loadSc ty32 rfl rfl (hb35.cell 2 _ rfl)) rfl ?_
  refine WL.y (Y.neq_i rfl rfl) rfl ?_
  refine WL.y (Y.move rfl) rfl ?_
  refine WL.cut 3 (σ := Unit) (fun _ w' => wd38 = w') (fun _ => [(0, Value.pointer (some ⟨b0, 0, none⟩)), (2, Value.pointer (some ⟨p14, 0, none⟩)), (3, vi r20), (28, Value.bool ((!decide (c36 = 0)) || (decide (r20 = 0))))]) ?_ ?_
  ·refine WL.part 25 rfl (fun hE47 => ?_) (fun hE47 => ?_)
   ·refine WL.gS rfl rfl rfl rfl ?_
    refine WL.gS rfl rfl rfl rfl ?_
    refine WL.y (Y.pick (b := true) rfl rfl) rfl ?_
    refine WL.ren (v' := Value.bool ((!decide (c36 = 0)) || (decide (r20 = 0)))) 28 rfl (congrArg Value.bool (orT hE47)) ?_
    exact WL.nil (At.join () rfl (.cons rfl (.cons rfl (.cons rfl (.cons rfl .nil)))))
   ·refine WL.ung rfl rfl ?_
    refine WL.y (Y.move rfl) rfl ?_
    refine WL.ung rfl rfl ?_
    refine WL.y (Y.eql_i rfl rfl) rfl ?_
    refine WL.y (Y.pick (b := false) rfl rfl) rfl ?_
    refine WL.ren (v' := Value.bool ((!decide (c36 = 0)) || (decide (r20 = 0)))) 28 rfl (congrArg Value.bool (orF hE47)) ?_
    exact WL.nil (At.join () rfl (.cons rfl (.cons rfl (.cons rfl (.cons rfl .nil)))))
  ·rintro _ _ rfl
   refine (show WL _ _ _ _ _ [(0, Value.pointer (some ⟨b0, 0, none⟩)), (2, Value.pointer (some ⟨p14, 0, none⟩)), (3, vi r20), (28, Value.bool ((!decide (c36 = 0)) || (decide (r20 = 0))))] _ from ?_)
   refine WL.nil ?_
   refine At.then ?_
   rcases cnd h with ⟨hc48, h⟩ | ⟨hc48, h⟩
   ·refine WC.condT' rfl hc48 ?_
    refine WC.seq ?_
    refine WC.region ?_
    refine WL.y (Y.build (vals := []) (cells := [vi 0, Value.slice none 0 0]) (Fits.evalp rfl) (by kernel_rfl)) rfl ?_
    have hf49 := hb13.st hst32 rfl
    have hf50 := hf49.st hst39 rfl
    refine WL.store (v := Value.agg (List.toArray [vi 0, Value.slice none 0 0])) (cells' := [vi 0, Value.slice none 0 0]) ty25 rfl rfl hf50 rfl (Nat.le_of_ble_eq_true rfl) rfl rfl ?_
    intro wd51 hst52 hb53
    refine WL.nil ?_
    refine At.then ?_
    refine WC.ret ?_
    refine At.thenR ?_
    obtain ⟨rfl, rfl⟩ := tup2 h
    have hs54 : Stp [3, 11] (Lg.OB b0 3 (Lg.O0 A)) w O37 wd51 := (Stp.trans (Stp.up hst17 rfl) (Stp.trans (Stp.up hst32 rfl) (Stp.trans (Stp.up hst39 rfl) (Stp.up hst52 rfl))))
    have hf55 := hb35.st hst52 rfl
    have hf56 := hf33.mono (imm_st hst39 rfl rfl)
    have hf57 := hf56.mono (imm_st hst52 rfl rfl)
    exact At.res (.inl rfl) rfl (.cell rfl (hb53.runAg 0 [vi 0, Value.slice none 0 0] ty25 rfl rfl rfl) .nil) ⟨Value.slice none 0 0, z23, rfl, (Stp.modL hs54 sB1 rfl rfl), RowF.nil, (Sl.outIB hf57 hs54 (lowB low0 rfl rfl) (aB O0_A rfl) (fun k hk => not_nil)), hf55.blk⟩
   ·refine WC.condF' rfl hc48 ?_
    refine WC.skip ?_
    refine At.then ?_
    refine WC.seq ?_
    refine WC.region ?_
    refine WL.y (Y.move rfl) rfl ?_
    have hf58 := hf33.mono (imm_st hst39 rfl rfl)
    obtain ⟨⟨r59, r60⟩, hp61, h⟩ := bnd h
    refine WL.call (vals := [Value.pointer (some ⟨b0, 0, none⟩)]) kok79 rfl rfl (c_ref10_State_small (A := imm O37) (a0 := (ref10_State.mk r21.L r21.At c36)) hf58 hb35.blk (fun k hk => imm_ne hb35.lab rfl k hk) hp61) ?_
    rintro vr67 wd66 ⟨z62, rfl, hm65, f63, f64⟩
    obtain ⟨O68, hold69, hnew70, hst71⟩ := adopt O37 (fun k => 1) [3] hm65 (memB hb35.lab rfl)
    have hf72 : Sl Rep.i wd66 (imm O68) z62 r60.L := Sl.adoptI (O := O37) f63 (fun _ hk => hk) (fun _ _ => Nat.le_refl _) hold69 hnew70
    have hb73 : Blk 3 O68 wd66 b0 110 [z62, vi r60.At, vi r60.E] := Blk.adopt hb35 hold69 f64
    obtain ⟨r74, hp75, h⟩ := bnd h
    refine WL.call (vals := [vu r59]) kok80 rfl rfl (c_ref02_Zag hp75) ?_
    rintro vr78 wd77 ⟨rfl, hm76⟩
    obtain ⟨O79, hold80, hnew81, hst82⟩ := adoptE O68 (fun k => 1) hm76
    refine WL.y (Y.build (vals := [(0, vi r74)]) (cells := [vi r74, Value.slice none 0 0]) (Fits.evalp rfl) (by kernel_rfl)) rfl ?_
    refine WL.alloc (O := O79) 12 [vi 0, Value.slice none 0 0] ty25 rfl rfl ?_
    intro p84 O85 wd86 hst87 hb83
    refine WL.store (v := Value.agg (List.toArray [vi r74, Value.slice none 0 0])) (cells' := [vi r74, Value.slice none 0 0]) ty25 rfl rfl hb83 rfl (Nat.le_of_ble_eq_true rfl) rfl rfl ?_
    intro wd88 hst89 hb90
    refine WL.nil ?_
    refine At.then ?_
    refine WC.seq ?_
    refine WC.seq ?_
    refine WC.region ?_
    refine WL.y (Y.assign rfl) rfl ?_
    refine WL.nil ?_
    refine At.then ?_
    refine WC.block ?_
    obtain ⟨p106, h, hk108⟩ := flow1 h
    obtain ⟨k107, h⟩ := loop_some h
    refine WC.joinB 0 (σ := (List UInt64 × Own × Value)) (fun x w' => p106 = .go x.1 ∧ Stp [12, 14, 1001] O85 wd88 x.2.1 w' ∧ OwnSl 1002 Rep.u 22 x.2.1 w' x.2.2 x.1 ∧ Blk 12 x.2.1 w' p84 25 [vi r74, x.2.2]) (fun x => [(2, Value.pointer (some ⟨p14, 0, none⟩)), (4, Value.pointer (some ⟨p84, 0, none⟩))]) ?_ ?_
    ·refine WC.loop (σ := (List UInt64 × Int × Own × Value)) (fun x k w' => loopN k (ref10_State_side_lp1 r20) (x.1, x.2.1) = some p106 ∧ Stp [12, 14, 1001] O85 wd88 x.2.2.1 w' ∧ OwnSl 1001 Rep.u 22 x.2.2.1 w' x.2.2.2 x.1 ∧ Blk 12 x.2.2.1 w' p84 25 [vi r74, x.2.2.2]) (fun x => [(2, Value.pointer (some ⟨p14, 0, none⟩)), (3, vi r20), (4, Value.pointer (some ⟨p84, 0, none⟩)), (5, vi x.2.1)]) ([], 0, O85, Value.slice none 0 0) k107 (.cons rfl (.cons rfl (.cons rfl (.cons rfl .nil)))) ⟨h, (Stp.refl _ _ _), (OwnSl.nil 1001 Rep.u 22), hb90⟩ ?_
     rintro ⟨c92, i95, O96, v93⟩ k107 wd97 ⟨h, hst98, hf94, hb91⟩
     obtain ⟨j109, q110, rfl, h, hn111⟩ := rnd1 h
     unfold ref10_State_side_lp1 at h
     try dsimp only at h hst98 hf94 hb91
     refine (show WC _ _ _ _ [(2, Value.pointer (some ⟨p14, 0, none⟩)), (3, vi r20), (4, Value.pointer (some ⟨p84, 0, none⟩)), (5, vi i95)] _ from ?_)
     refine WC.seq ?_
     refine WC.seq ?_
     refine WC.region ?_
     refine WL.y (Y.move rfl) rfl ?_
     refine WL.y (Y.move rfl) rfl ?_
     refine WL.y (Y.lss_i rfl rfl) rfl ?_
     refine WL.nil ?_
     refine At.then ?_
     rcases cnd h with ⟨hc112, h⟩ | ⟨hc112, h⟩
     ·refine WC.condT' rfl hc112 ?_
      refine WC.skip ?_
      refine At.then ?_
      refine WC.seq ?_
      refine WC.block ?_
      refine WC.region ?_
      refine WL.y (Y.fieldAddr fo25_1 rfl) rfl ?_
      refine WL.y (Y.loadSc ty23 rfl rfl (hb91.cell 1 _ rfl)) rfl ?_
      refine WL.buildSlice (O := O96) (R := Rep.u) (vals := [(0, vu 0)]) 13 [vu 0] (xs := [0]) (by decide) ty23 ty22 (by decide) (by decide) (Fits.evalp rfl) (by kernel_rfl) rfl ⟨[vu 0], [], rfl, rfl, rfl⟩ rfl ?_
      intro v113 O115 wd116 hst117 ho114
      obtain ⟨xs118, hxs118, h⟩ := bnd h
      have hf119 := hf94.st hst117 rfl rfl rfl
      refine WL.append (by decide) ty23 ty22 rfl (by decide) rfl rfl hf119 ho114.src hxs118 rfl ?_
      intro v123 O120 wd121 hst122 ho124
      refine WL.y (Y.fieldAddr fo25_1 rfl) rfl ?_
      have hh128 := h
      obtain ⟨p125, m126, c127, rfl⟩ := ho124.shape
      have h := hh128
      have hf129 := hb91.st hst117 rfl
      have hf130 := hf129.st hst122 rfl
      refine WL.store (v := (Value.slice p125 m126 c127)) (cells' := [vi r74, (Value.slice p125 m126 c127)]) ty23 rfl rfl hf130 rfl (Nat.le_of_ble_eq_true rfl) rfl rfl ?_
      intro wd131 hst132 hb133
      refine WL.nil ?_
      refine At.inBlock ?_
      refine At.then ?_
      refine WC.region ?_
      refine WL.y (Y.move rfl) rfl ?_
      refine WL.y (Y.add_i rfl rfl) rfl ?_
      obtain ⟨i134, hi134, h⟩ := lt1 h
      refine WL.yE (Y.assign rfl) (congrArg vi hi134.symm) rfl ?_
      refine WL.nil ?_
      have hf135 := ho124.st hst132 rfl rfl rfl
      exact At.round (xs118, i134, O120, (Value.slice p125 m126 c127)) j109 (Nat.lt_succ_self _) ⟨next1 h hn111, (Stp.trans (Stp.up hst98 rfl) (Stp.trans (Stp.up hst117 rfl) (Stp.trans (Stp.up hst122 rfl) (Stp.up hst132 rfl)))), hf135, hb133⟩ (.cons rfl (.cons rfl (.cons rfl (.cons rfl .nil))))
     ·refine WC.condF' rfl hc112 ?_
      refine WC.exit ?_
      refine At.thenX ?_
      refine At.loopX ?_
      obtain ⟨O136, hst137, ho138⟩ := OwnSl.rlb 1002 rfl hf94
      have hf139 := hb91.st hst137 rfl
      exact At.hitB (σ := (List UInt64 × Own × Value)) (c92, O136, v93) ⟨brk1 h hn111, (Stp.trans (Stp.up hst98 rfl) (Stp.up hst137 rfl)), ho138, hf139⟩ (.cons rfl (.cons rfl .nil))
    ·rintro ⟨c100, O103, v101⟩ wd104 ⟨rfl, hst105, hf102, hb99⟩
     replace h := flowK_go hk108
     try dsimp only at h hst105 hf102 hb99
     refine (show At _ _ _ [(2, Value.pointer (some ⟨p14, 0, none⟩)), (4, Value.pointer (some ⟨p84, 0, none⟩))] _ from ?_)
     refine At.inBlockHit ?_
     refine At.then ?_
     refine WC.seq ?_
     refine WC.region ?_
     refine WL.y (Y.loadAg ty25 rfl rfl (hb99.cells 0 [vi r74, v101] rfl) rfl) rfl ?_
     have hh143 := h
     obtain ⟨p140, m141, c142, rfl⟩ := hf102.shape
     have h := hh143
     have hf144 := hb13.st hst32 rfl
     have hf145 := hf144.st hst39 rfl
     have hf146 := hf145.st hst71 rfl
     have hf147 := hf146.st hst82 rfl
     have hf148 := hf147.st hst87 rfl
     have hf149 := hf148.st hst89 rfl
     have hf150 := hf149.st hst105 rfl
     refine WL.store (v := Value.agg (List.toArray [vi r74, (Value.slice p140 m141 c142)])) (cells' := [vi r74, (Value.slice p140 m141 c142)]) ty25 rfl rfl hf150 rfl (Nat.le_of_ble_eq_true rfl) rfl rfl ?_
     intro wd151 hst152 hb153
     refine WL.nil ?_
     refine At.then ?_
     refine WC.ret ?_
     obtain ⟨rfl, rfl⟩ := tup2 h
     have hs154 : Stp [3, 11, 12, 14, 1001] (Lg.OB b0 3 (Lg.O0 A)) w O103 wd151 := (Stp.trans (Stp.up hst17 rfl) (Stp.trans (Stp.up hst32 rfl) (Stp.trans (Stp.up hst39 rfl) (Stp.trans (Stp.up hst71 rfl) (Stp.trans (Stp.up hst82 rfl) (Stp.trans (Stp.up hst87 rfl) (Stp.trans (Stp.up hst89 rfl) (Stp.trans (Stp.up hst105 rfl) (Stp.up hst152 rfl)))))))))
     have hf155 := hf102.st hst152 rfl rfl rfl
     have hf156 := hb73.st hst82 rfl
     have hf157 := hf156.st hst87 rfl
     have hf158 := hf157.st hst89 rfl
     have hf159 := hf158.st hst105 rfl
     have hf160 := hf159.st hst152 rfl
     have hf161 := hf72.mono (imm_st hst82 rfl rfl)
     have hf162 := hf161.mono (imm_st hst87 rfl rfl)
     have hf163 := hf162.mono (imm_st hst89 rfl rfl)
     have hf164 := hf163.mono (imm_st hst105 rfl rfl)
     have hf165 := hf164.mono (imm_st hst152 rfl rfl)
     exact At.res (.inl rfl) rfl (.cell rfl (hb153.runAg 0 [vi r74, (Value.slice p140 m141 c142)] ty25 rfl rfl rfl) .nil) ⟨(Value.slice p140 m141 c142), z62, rfl, (Stp.modL hs154 sB1 rfl rfl), (OwnSl.outF hf155 hs154 (lowB low0 rfl rfl) rfl), (Sl.outIB hf165 hs154 (lowB low0 rfl rfl) (aB O0_A rfl) (fun k hk => not_own hf155.labs rfl hk)), hf160.blk⟩
theorem c_ref10_Alike {A : Nat → Prop} {v0_3 : Value} {v0_5 : Value} {a0 : api_Hist} {v1_3 : Value} {v1_5 : Value} {a1 : api_Hist} {w : World} (hs0_3 : Sl Rep.u w A v0_3 a0.Pos.Counts) (hs0_5 : Sl Rep.u w A v0_5 a0.Neg.Counts) (hs1_3 : Sl Rep.u w A v1_3 a1.Pos.Counts) (hs1_5 : Sl Rep.u w A v1_5 a1.Neg.Counts) {r0 : Bool} (h : ref10_Alike a0 a1 = some r0) : Rets Try.prog 81 [Value.agg (List.toArray [vi a0.Scale, vu a0.Zero, vi a0.Pos.Offset, v0_3, vi a0.Neg.Offset, v0_5]), Value.agg (List.toArray [vi a1.Scale, vu a1.Zero, vi a1.Pos.Offset, v1_3, vi a1.Neg.Offset, v1_5])] w (fun v w' => v = Value.bool r0 ∧ Ext w w') := by
 unfold ref10_Alike at h
 refine Rets.enter Try.func81 rfl rfl ?_
 have hf11 : Sl Rep.u w (imm (Lg.O0 A)) v0_3 a0.Pos.Counts := (Sl.start hs0_3)
 have hf12 : Sl Rep.u w (imm (Lg.O0 A)) v0_5 a0.Neg.Counts := (Sl.start hs0_5)
 have hf13 : Sl Rep.u w (imm (Lg.O0 A)) v1_3 a1.Pos.Counts := (Sl.start hs1_3)
 have hf14 : Sl Rep.u w (imm (Lg.O0 A)) v1_5 a1.Neg.Counts := (Sl.start hs1_5)
 refine (show WC _ _ _ _ [(0, Value.agg (List.toArray [vi a0.Scale, vu a0.Zero, vi a0.Pos.Offset, v0_3, vi a0.Neg.Offset, v0_5])), (1, Value.agg (List.toArray [vi a1.Scale, vu a1.Zero, vi a1.Pos.Offset, v1_3, vi a1.Neg.Offset, v1_5]))] _ from ?_)
 refine WC.seq ?_
 refine WC.region ?_
 have hh18 := h
 obtain ⟨p15, m16, c17, rfl⟩ := hf11.shape
 have h := hh18
 have hh22 := h
 obtain ⟨p19, m20, c21, rfl⟩ := hf12.shape
 have h := hh22
 refine WL.box (O := (Lg.O0 A)) 11 [vi a0.Scale, vu a0.Zero, vi a0.Pos.Offset, (Value.slice p15 m16 c17), vi a0.Neg.Offset, (Value.slice p19 m20 c21)] rfl rfl rfl ?_
 intro p24 O25 wd26 hst27 hb23
 have hf28 := hf13.mono (imm_st hst27 rfl rfl)
 have hh32 := h
 obtain ⟨p29, m30, c31, rfl⟩ := hf28.shape
 have h := hh32
 have hf33 := hf14.mono (imm_st hst27 rfl rfl)
 have hh37 := h
 obtain ⟨p34, m35, c36, rfl⟩ := hf33.shape
 have h := hh37
 refine WL.box (O := O25) 12 [vi a1.Scale, vu a1.Zero, vi a1.Pos.Offset, (Value.slice p29 m30 c31), vi a1.Neg.Offset, (Value.slice p34 m35 c36)] rfl rfl rfl ?_
 intro p39 O40 wd41 hst42 hb38
 refine WL.y (Y.assign rfl) rfl ?_
 refine WL.nil ?_
 refine At.then ?_
 refine WC.seq ?_
 refine WC.region ?_
 refine WL.y (Y.fieldAddr fo27_0 rfl) rfl ?_
 have hf43 := hb23.st hst42 rfl
 refine WL.y (Y.loadSc ty3 rfl rfl (hf43.cell 0 _ rfl)) rfl ?_
 refine WL.y (Y.fieldAddr fo27_0 rfl) rfl ?_
 refine WL.y (Y.loadSc ty3 rfl rfl (hb38.cell 0 _ rfl)) rfl ?_
 refine WL.y (Y.eql_i rfl rfl) rfl ?_
 refine WL.y (Y.move rfl) rfl ?_
 refine WL.cut 8 (σ := Unit) (fun _ w' => wd41 = w') (fun _ => [(2, Value.pointer (some ⟨p24, 0, none⟩)), (3, Value.pointer (some ⟨p39, 0, none⟩)), (18, Value.bool ((decide (a0.Scale = a1.Scale)) && (decide (a0.Pos.Offset = a1.Pos.Offset))))]) ?_ ?_
 ·refine WL.part 10 rfl (fun hE44 => ?_) (fun hE44 => ?_)
  ·refine WL.ung rfl rfl ?_
   refine WL.y (Y.fieldAddr fo27_2 rfl) rfl ?_
   refine WL.ung rfl rfl ?_
   refine WL.y (Y.fieldAddr fo25_0 rfl) rfl ?_
   refine WL.ung rfl rfl ?_
   refine WL.y (Y.loadSc ty3 rfl rfl (hf43.cell 2 _ rfl)) rfl ?_
   refine WL.ung rfl rfl ?_
   refine WL.y (Y.fieldAddr fo27_2 rfl) rfl ?_
   refine WL.ung rfl rfl ?_
   refine WL.y (Y.fieldAddr fo25_0 rfl) rfl ?_
   refine WL.ung rfl rfl ?_
   refine WL.y (Y.loadSc ty3 rfl rfl (hb38.cell 2 _ rfl)) rfl ?_
   refine WL.ung rfl rfl ?_
   refine WL.y (Y.eql_i rfl rfl) rfl ?_
   refine WL.y (Y.pick (b := true) rfl rfl) rfl ?_
   refine WL.ren (v' := Value.bool ((decide (a0.Scale = a1.Scale)) && (decide (a0.Pos.Offset = a1.Pos.Offset)))) 18 rfl (congrArg Value.bool (andT hE44)) ?_
   exact WL.nil (At.join () rfl (.cons rfl (.cons rfl (.cons rfl .nil))))
  ·refine WL.gS rfl rfl rfl rfl ?_
   refine WL.gS rfl rfl rfl rfl ?_
   refine WL.gS rfl rfl rfl rfl ?_
   refine WL.gS rfl rfl rfl rfl ?_
   refine WL.gS rfl rfl rfl rfl ?_
   refine WL.gS rfl rfl rfl rfl ?_
   refine WL.gS rfl rfl rfl rfl ?_
   refine WL.y (Y.pick (b := false) rfl rfl) rfl ?_
   refine WL.ren (v' := Value.bool ((decide (a0.Scale = a1.Scale)) && (decide (a0.Pos.Offset = a1.Pos.Offset)))) 18 rfl (congrArg Value.bool (andF hE44)) ?_
   exact WL.nil (At.join () rfl (.cons rfl (.cons rfl (.cons rfl .nil))))
 ·rintro _ _ rfl
  refine (show WL _ _ _ _ _ [(2, Value.pointer (some ⟨p24, 0, none⟩)), (3, Value.pointer (some ⟨p39, 0, none⟩)), (18, Value.bool ((decide (a0.Scale = a1.Scale)) && (decide (a0.Pos.Offset = a1.Pos.Offset))))] _ from ?_)
  refine WL.y (Y.move rfl) rfl ?_
  refine WL.cut 8 (σ := Unit) (fun _ w' => wd41 = w') (fun _ => [(2, Value.pointer (some ⟨p24, 0, none⟩)), (3, Value.pointer (some ⟨p39, 0, none⟩)), (27, Value.bool (((decide (a0.Scale = a1.Scale)) && (decide (a0.Pos.Offset = a1.Pos.Offset))) && (decide (a0.Neg.Offset = a1.Neg.Offset))))]) ?_ ?_
  ·refine WL.part 19 rfl (fun hE45 => ?_) (fun hE45 => ?_)
   ·refine WL.ung rfl rfl ?_
    refine WL.y (Y.fieldAddr fo27_3 rfl) rfl ?_
    refine WL.ung rfl rfl ?_
    refine WL.y (Y.fieldAddr fo25_0 rfl) rfl ?_
    refine WL.ung rfl rfl ?_
    refine WL.y (Y.loadSc ty3 rfl rfl (hf43.cell 4 _ rfl)) rfl ?_
    refine WL.ung rfl rfl ?_
    refine WL.y (Y.fieldAddr fo27_3 rfl) rfl ?_
    refine WL.ung rfl rfl ?_
    refine WL.y (Y.fieldAddr fo25_0 rfl) rfl ?_
    refine WL.ung rfl rfl ?_
    refine WL.y (Y.loadSc ty3 rfl rfl (hb38.cell 4 _ rfl)) rfl ?_
    refine WL.ung rfl rfl ?_
    refine WL.y (Y.eql_i rfl rfl) rfl ?_
    refine WL.y (Y.pick (b := true) rfl rfl) rfl ?_
    refine WL.ren (v' := Value.bool (((decide (a0.Scale = a1.Scale)) && (decide (a0.Pos.Offset = a1.Pos.Offset))) && (decide (a0.Neg.Offset = a1.Neg.Offset)))) 27 rfl (congrArg Value.bool (andT hE45)) ?_
    exact WL.nil (At.join () rfl (.cons rfl (.cons rfl (.cons rfl .nil))))
   ·refine WL.gS rfl rfl rfl rfl ?_
    refine WL.gS rfl rfl rfl rfl ?_
    refine WL.gS rfl rfl rfl rfl ?_
    refine WL.gS rfl rfl rfl rfl ?_
    refine WL.gS rfl rfl rfl rfl ?_
    refine WL.gS rfl rfl rfl rfl ?_
    refine WL.gS rfl rfl rfl rfl ?_
    refine WL.y (Y.pick (b := false) rfl rfl) rfl ?_
    refine WL.ren (v' := Value.bool (((decide (a0.Scale = a1.Scale)) && (decide (a0.Pos.Offset = a1.Pos.Offset))) && (decide (a0.Neg.Offset = a1.Neg.Offset)))) 27 rfl (congrArg Value.bool (andF hE45)) ?_
    exact WL.nil (At.join () rfl (.cons rfl (.cons rfl (.cons rfl .nil))))
  ·rintro _ _ rfl
   refine (show WL _ _ _ _ _ [(2, Value.pointer (some ⟨p24, 0, none⟩)), (3, Value.pointer (some ⟨p39, 0, none⟩)), (27, Value.bool (((decide (a0.Scale = a1.Scale)) && (decide (a0.Pos.Offset = a1.Pos.Offset))) && (decide (a0.Neg.Offset = a1.Neg.Offset))))] _ from ?_)
   refine WL.y (Y.move rfl) rfl ?_
   refine WL.cut 10 (σ := Unit) (fun _ w' => wd41 = w') (fun _ => [(2, Value.pointer (some ⟨p24, 0, none⟩)), (3, Value.pointer (some ⟨p39, 0, none⟩)), (38, Value.bool ((((decide (a0.Scale = a1.Scale)) && (decide (a0.Pos.Offset = a1.Pos.Offset))) && (decide (a0.Neg.Offset = a1.Neg.Offset))) && (decide ((a0.Pos.Counts.length : Int) = (a1.Pos.Counts.length : Int)))))]) ?_ ?_
   ·refine WL.part 28 rfl (fun hE46 => ?_) (fun hE46 => ?_)
    ·refine WL.ung rfl rfl ?_
     refine WL.y (Y.fieldAddr fo27_2 rfl) rfl ?_
     refine WL.ung rfl rfl ?_
     refine WL.y (Y.fieldAddr fo25_1 rfl) rfl ?_
     refine WL.ung rfl rfl ?_
     refine WL.y (Y.loadSc ty23 rfl rfl (hf43.cell 3 _ rfl)) rfl ?_
     refine WL.ung rfl rfl ?_
     have hf47 := hf11.mono (imm_st hst27 rfl rfl)
     have hf48 := hf47.mono (imm_st hst42 rfl rfl)
     refine WL.y (Y.len ty23 rfl hf48) rfl ?_
     refine WL.ung rfl rfl ?_
     refine WL.y (Y.fieldAddr fo27_2 rfl) rfl ?_
     refine WL.ung rfl rfl ?_
     refine WL.y (Y.fieldAddr fo25_1 rfl) rfl ?_
     refine WL.ung rfl rfl ?_
     refine WL.y (Y.loadSc ty23 rfl rfl (hb38.cell 3 _ rfl)) rfl ?_
     refine WL.ung rfl rfl ?_
     have hf49 := hf28.mono (imm_st hst42 rfl rfl)
     refine WL.y (Y.len ty23 rfl hf49) rfl ?_
     refine WL.ung rfl rfl ?_
     refine WL.y (Y.eql_i rfl rfl) rfl ?_
     refine WL.y (Y.pick (b := true) rfl rfl) rfl ?_
     refine WL.ren (v' := Value.bool ((((decide (a0.Scale = a1.Scale)) && (decide (a0.Pos.Offset = a1.Pos.Offset))) && (decide (a0.Neg.Offset = a1.Neg.Offset))) && (decide ((a0.Pos.Counts.length : Int) = (a1.Pos.Counts.length : Int))))) 38 rfl (congrArg Value.bool (andT hE46)) ?_
     exact WL.nil (At.join () rfl (.cons rfl (.cons rfl (.cons rfl .nil))))
    ·refine WL.gS rfl rfl rfl rfl ?_
     refine WL.gS rfl rfl rfl rfl ?_
     refine WL.gS rfl rfl rfl rfl ?_
     refine WL.gS rfl rfl rfl rfl ?_
     refine WL.gS rfl rfl rfl rfl ?_
     refine WL.gS rfl rfl rfl rfl ?_
     refine WL.gS rfl rfl rfl rfl ?_
     refine WL.gS rfl rfl rfl rfl ?_
     refine WL.gS rfl rfl rfl rfl ?_
     refine WL.y (Y.pick (b := false) rfl rfl) rfl ?_
     refine WL.ren (v' := Value.bool ((((decide (a0.Scale = a1.Scale)) && (decide (a0.Pos.Offset = a1.Pos.Offset))) && (decide (a0.Neg.Offset = a1.Neg.Offset))) && (decide ((a0.Pos.Counts.length : Int) = (a1.Pos.Counts.length : Int))))) 38 rfl (congrArg Value.bool (andF hE46)) ?_
     exact WL.nil (At.join () rfl (.cons rfl (.cons rfl (.cons rfl .nil))))
   ·rintro _ _ rfl
    refine (show WL _ _ _ _ _ [(2, Value.pointer (some ⟨p24, 0, none⟩)), (3, Value.pointer (some ⟨p39, 0, none⟩)), (38, Value.bool ((((decide (a0.Scale = a1.Scale)) && (decide (a0.Pos.Offset = a1.Pos.Offset))) && (decide (a0.Neg.Offset = a1.Neg.Offset))) && (decide ((a0.Pos.Counts.length : Int) = (a1.Pos.Counts.length : Int)))))] _ from ?_)
    refine WL.y (Y.move rfl) rfl ?_
    refine WL.cut 10 (σ := Unit) (fun _ w' => wd41 = w') (fun _ => [(49, Value.bool (((((decide (a0.Scale = a1.Scale)) && (decide (a0.Pos.Offset = a1.Pos.Offset))) && (decide (a0.Neg.Offset = a1.Neg.Offset))) && (decide ((a0.Pos.Counts.length : Int) = (a1.Pos.Counts.length : Int)))) && (decide ((a0.Neg.Counts.length : Int) = (a1.Neg.Counts.length : Int)))))]) ?_ ?_
    ·refine WL.part 39 rfl (fun hE50 => ?_) (fun hE50 => ?_)
     ·refine WL.ung rfl rfl ?_
      refine WL.y (Y.fieldAddr fo27_3 rfl) rfl ?_
      refine WL.ung rfl rfl ?_
      refine WL.y (Y.fieldAddr fo25_1 rfl) rfl ?_
      refine WL.ung rfl rfl ?_
      refine WL.y (Y.loadSc ty23 rfl rfl (hf43.cell 5 _ rfl)) rfl ?_
      refine WL.ung rfl rfl ?_
      have hf51 := hf12.mono (imm_st hst27 rfl rfl)
      have hf52 := hf51.mono (imm_st hst42 rfl rfl)
      refine WL.y (Y.len ty23 rfl hf52) rfl ?_
      refine WL.ung rfl rfl ?_
      refine WL.y (Y.fieldAddr fo27_3 rfl) rfl ?_
      refine WL.ung rfl rfl ?_
      refine WL.y (Y.fieldAddr fo25_1 rfl) rfl ?_
      refine WL.ung rfl rfl ?_
      refine WL.y (Y.loadSc ty23 rfl rfl (hb38.cell 5 _ rfl)) rfl ?_
      refine WL.ung rfl rfl ?_
      have hf53 := hf33.mono (imm_st hst42 rfl rfl)
      refine WL.y (Y.len ty23 rfl hf53) rfl ?_
      refine WL.ung rfl rfl ?_
      refine WL.y (Y.eql_i rfl rfl) rfl ?_
      refine WL.y (Y.pick (b := true) rfl rfl) rfl ?_
      refine WL.ren (v' := Value.bool (((((decide (a0.Scale = a1.Scale)) && (decide (a0.Pos.Offset = a1.Pos.Offset))) && (decide (a0.Neg.Offset = a1.Neg.Offset))) && (decide ((a0.Pos.Counts.length : Int) = (a1.Pos.Counts.length : Int)))) && (decide ((a0.Neg.Counts.length : Int) = (a1.Neg.Counts.length : Int))))) 49 rfl (congrArg Value.bool (andT hE50)) ?_
      exact WL.nil (At.join () rfl (.cons rfl .nil))
     ·refine WL.gS rfl rfl rfl rfl ?_
      refine WL.gS rfl rfl rfl rfl ?_
      refine WL.gS rfl rfl rfl rfl ?_
      refine WL.gS rfl rfl rfl rfl ?_
      refine WL.gS rfl rfl rfl rfl ?_
      refine WL.gS rfl rfl rfl rfl ?_
      refine WL.gS rfl rfl rfl rfl ?_
      refine WL.gS rfl rfl rfl rfl ?_
      refine WL.gS rfl rfl rfl rfl ?_
      refine WL.y (Y.pick (b := false) rfl rfl) rfl ?_
      refine WL.ren (v' := Value.bool (((((decide (a0.Scale = a1.Scale)) && (decide (a0.Pos.Offset = a1.Pos.Offset))) && (decide (a0.Neg.Offset = a1.Neg.Offset))) && (decide ((a0.Pos.Counts.length : Int) = (a1.Pos.Counts.length : Int)))) && (decide ((a0.Neg.Counts.length : Int) = (a1.Neg.Counts.length : Int))))) 49 rfl (congrArg Value.bool (andF hE50)) ?_
      exact WL.nil (At.join () rfl (.cons rfl .nil))
    ·rintro _ _ rfl
     refine (show WL _ _ _ _ _ [(49, Value.bool (((((decide (a0.Scale = a1.Scale)) && (decide (a0.Pos.Offset = a1.Pos.Offset))) && (decide (a0.Neg.Offset = a1.Neg.Offset))) && (decide ((a0.Pos.Counts.length : Int) = (a1.Pos.Counts.length : Int)))) && (decide ((a0.Neg.Counts.length : Int) = (a1.Neg.Counts.length : Int)))))] _ from ?_)
     obtain ⟨t54, ht54, h⟩ := lt1 h
     refine WL.yE (Y.assign rfl) (congrArg Value.bool ht54.symm) rfl ?_
     refine WL.nil ?_
     refine At.then ?_
     refine WC.ret ?_
     obtain rfl := some1 h
     have hs55 : Stp [] (Lg.O0 A) w O40 wd41 := (Stp.trans (Stp.up hst27 rfl) (Stp.up hst42 rfl))
     exact At.res (.inl rfl) rfl (.tmp rfl .nil) ⟨rfl, (Stp.ext hs55 rfl rfl)⟩
theorem c_ref10_Get {A : Nat → Prop} {a0 : List api_Hist} {v0 : Value} {a1 : List Int} {v1 : Value} {w : World} (hs0 : Sl rep_api_Hist w A v0 a0) (hs1 : Sl Rep.i w A v1 a1) {r0 : ref10_Got} (h : ref10_Get a0 a1 = some r0) : Rets Try.prog 49 [v0, v1] w (fun v w' => ∃ (u0_3 : Value) (u0_5 : Value), v = Value.agg (List.toArray [vi r0.H.Scale, vu r0.H.Zero, vi r0.H.Pos.Offset, u0_3, vi r0.H.Neg.Offset, u0_5, vi r0.N, vi r0.E]) ∧ Ext w w' ∧ Sl Rep.u w' (fun k => w.heap.size ≤ k) u0_3 r0.H.Pos.Counts ∧ Sl Rep.u w' (fun k => w.heap.size ≤ k) u0_5 r0.H.Neg.Counts) := by
 unfold ref10_Get at h
 refine Rets.enter Try.func49 rfl rfl ?_
 have hf11 : Sl rep_api_Hist w (imm (Lg.O0 A)) v0 a0 := (Sl.start hs0)
 have hf12 : Sl Rep.i w (imm (Lg.O0 A)) v1 a1 := (Sl.start hs1)
 refine (show WC _ _ _ _ [(0, v0), (1, v1)] _ from ?_)
 refine WC.seq ?_
 refine WC.region ?_
 refine WL.alloc (O := (Lg.O0 A)) 11 [vi 0, vu 0, vi 0, Value.slice none 0 0, vi 0, Value.slice none 0 0, vi 0, vi 0] ty67 rfl rfl ?_
 intro p14 O15 wd16 hst17 hb13
 refine WL.nil ?_
 refine At.then ?_
 refine WC.seq ?_
 refine WC.region ?_
 refine WL.y (Y.move rfl) rfl ?_
 have hf18 := hf12.mono (imm_st hst17 rfl rfl)
 have hh22 := h
 obtain ⟨p19, m20, c21, rfl⟩ := hf18.shape
 have h := hh22
 refine WL.y (Y.build (vals := [(0, (Value.slice p19 m20 c21))]) (cells := [(Value.slice p19 m20 c21), vi 0, vi 0]) (Fits.evalp rfl) (by kernel_rfl)) rfl ?_
 refine WL.box (O := O15) 12 [(Value.slice p19 m20 c21), vi 0, vi 0] rfl rfl rfl ?_
 intro p24 O25 wd26 hst27 hb23
 refine WL.y (Y.assign rfl) rfl ?_
 refine WL.nil ?_
 refine At.then ?_
 refine WC.seq ?_
 refine WC.region ?_
 refine WL.y (Y.move rfl) rfl ?_
 have hf28 := hf18.mono (imm_st hst27 rfl rfl)
 obtain ⟨⟨r29, r30⟩, hp31, h⟩ := bnd h
 refine WL.call (vals := [Value.pointer (some ⟨p24, 0, none⟩), vi 1]) kok76 rfl rfl (c_ref10_State_bits (A := imm O25) (a0 := (ref10_State.mk a1 0 0)) hf28 hb23.blk (fun k hk => imm_ne hb23.lab rfl k hk) hp31) ?_
 rintro vr37 wd36 ⟨z32, rfl, hm35, f33, f34⟩
 obtain ⟨O38, hold39, hnew40, hst41⟩ := adopt O25 (fun k => 1) [12] hm35 (memB hb23.lab rfl)
 have hf42 : Sl Rep.i wd36 (imm O38) z32 r30.L := Sl.adoptI (O := O25) f33 (fun _ hk => hk) (fun _ _ => Nat.le_refl _) hold39 hnew40
 have hb43 : Blk 12 O38 wd36 p24 110 [z32, vi r30.At, vi r30.E] := Blk.adopt hb23 hold39 f34
 refine WL.y (Y.eql_i rfl rfl) rfl ?_
 obtain ⟨same44, hsame44, h⟩ := lt1 h
 refine WL.yE (Y.assign rfl) (congrArg Value.bool hsame44.symm) rfl ?_
 refine WL.nil ?_
 refine At.then ?_
 refine WC.seq ?_
 refine WC.seq ?_
 refine WC.region ?_
 refine WL.y (Y.move rfl) rfl ?_
 refine WL.y (Y.move rfl) rfl ?_
 refine WL.cut 4 (σ := Unit) (fun _ w' => wd36 = w') (fun _ => [(0, v0), (4, Value.pointer (some ⟨p14, 0, none⟩)), (5, Value.pointer (some ⟨p24, 0, none⟩)), (6, Value.bool same44), (26, Value.bool (same44 && (decide ((a0.length : Int) = 0))))]) ?_ ?_
 ·refine WL.part 22 rfl (fun hE45 => ?_) (fun hE45 => ?_)
  ·refine WL.ung rfl rfl ?_
   refine WL.y (Y.move rfl) rfl ?_
   refine WL.ung rfl rfl ?_
   have hf46 := hf11.mono (imm_st hst17 rfl rfl)
   have hf47 := hf46.mono (imm_st hst27 rfl rfl)
   have hf48 := hf47.mono (imm_st hst41 rfl rfl)
   refine WL.y (Y.len ty45 rfl hf48) rfl ?_
   refine WL.ung rfl rfl ?_
   refine WL.y (Y.eql_i rfl rfl) rfl ?_
   refine WL.y (Y.pick (b := true) rfl rfl) rfl ?_
   refine WL.ren (v' := Value.bool (same44 && (decide ((a0.length : Int) = 0)))) 26 rfl (congrArg Value.bool (andT hE45)) ?_
   exact WL.nil (At.join () rfl (.cons rfl (.cons rfl (.cons rfl (.cons rfl (.cons rfl .nil))))))
  ·refine WL.gS rfl rfl rfl rfl ?_
   refine WL.gS rfl rfl rfl rfl ?_
   refine WL.gS rfl rfl rfl rfl ?_
   refine WL.y (Y.pick (b := false) rfl rfl) rfl ?_
   refine WL.ren (v' := Value.bool (same44 && (decide ((a0.length : Int) = 0)))) 26 rfl (congrArg Value.bool (andF hE45)) ?_
   exact WL.nil (At.join () rfl (.cons rfl (.cons rfl (.cons rfl (.cons rfl (.cons rfl .nil))))))
 ·rintro _ _ rfl
  refine (show WL _ _ _ _ _ [(0, v0), (4, Value.pointer (some ⟨p14, 0, none⟩)), (5, Value.pointer (some ⟨p24, 0, none⟩)), (6, Value.bool same44), (26, Value.bool (same44 && (decide ((a0.length : Int) = 0))))] _ from ?_)
  refine WL.nil ?_
  refine At.then ?_
  rcases cnd h with ⟨hc49, h⟩ | ⟨hc49, h⟩
  ·refine WC.condT' rfl hc49 ?_
   refine WC.seq ?_
   refine WC.region ?_
   refine WL.y (Y.build (vals := [(2, vi 3)]) (cells := [vi 0, vu 0, vi 0, Value.slice none 0 0, vi 0, Value.slice none 0 0, vi 0, vi 3]) (Fits.evalp rfl) (by kernel_rfl)) rfl ?_
   have hf50 := hb13.st hst27 rfl
   have hf51 := hf50.st hst41 rfl
   refine WL.store (v := Value.agg (List.toArray [vi 0, vu 0, vi 0, Value.slice none 0 0, vi 0, Value.slice none 0 0, vi 0, vi 3])) (cells' := [vi 0, vu 0, vi 0, Value.slice none 0 0, vi 0, Value.slice none 0 0, vi 0, vi 3]) ty67 rfl rfl hf51 rfl (Nat.le_of_ble_eq_true rfl) rfl rfl ?_
   intro wd52 hst53 hb54
   refine WL.nil ?_
   refine At.then ?_
   refine WC.ret ?_
   refine At.thenR ?_
   obtain rfl := some1 h
   have hs55 : Stp [11, 12] (Lg.O0 A) w O38 wd52 := (Stp.trans (Stp.up hst17 rfl) (Stp.trans (Stp.up hst27 rfl) (Stp.trans (Stp.up hst41 rfl) (Stp.up hst53 rfl))))
   exact At.res (.inl rfl) rfl (.cell rfl (hb54.runAg 0 [vi 0, vu 0, vi 0, Value.slice none 0 0, vi 0, Value.slice none 0 0, vi 0, vi 3] ty67 rfl rfl rfl) .nil) ⟨Value.slice none 0 0, Value.slice none 0 0, rfl, (Stp.ext hs55 rfl rfl), (Or.inl ⟨rfl, rfl⟩), (Or.inl ⟨rfl, rfl⟩)⟩
  ·refine WC.condF' rfl hc49 ?_
   refine WC.skip ?_
   refine At.then ?_
   refine WC.seq ?_
   refine WC.region ?_
   refine WL.y (Y.build (vals := []) (cells := [vi 0, vu 0, vi 0, Value.slice none 0 0, vi 0, Value.slice none 0 0]) (Fits.evalp rfl) (by kernel_rfl)) rfl ?_
   refine WL.alloc (O := O38) 13 [vi 0, vu 0, vi 0, Value.slice none 0 0, vi 0, Value.slice none 0 0] ty27 rfl rfl ?_
   intro p57 O58 wd59 hst60 hb56
   refine WL.store (v := Value.agg (List.toArray [vi 0, vu 0, vi 0, Value.slice none 0 0, vi 0, Value.slice none 0 0])) (cells' := [vi 0, vu 0, vi 0, Value.slice none 0 0, vi 0, Value.slice none 0 0]) ty27 rfl rfl hb56 rfl (Nat.le_of_ble_eq_true rfl) rfl rfl ?_
   intro wd61 hst62 hb63
   refine WL.nil ?_
   refine At.then ?_
   refine WC.seq ?_
   refine WC.region ?_
   refine WL.y (Y.assign rfl) rfl ?_
   refine WL.nil ?_
   refine At.then ?_
   refine WC.seq ?_
   obtain ⟨p87, h, hk88⟩ := bnd h
   refine WC.join (σ := (List Int × Int × Int × Int × UInt64 × Int × List UInt64 × Int × List UInt64 × List UInt64 × Own × Value × Value × Value × Value)) (fun x w' => (x.1, x.2.1, x.2.2.1, x.2.2.2.1, x.2.2.2.2.1, x.2.2.2.2.2.1, x.2.2.2.2.2.2.1, x.2.2.2.2.2.2.2.1, x.2.2.2.2.2.2.2.2.1, x.2.2.2.2.2.2.2.2.2.1) = p87 ∧ Stp [12, 13, 14, 15, 16] O58 wd61 x.2.2.2.2.2.2.2.2.2.2.1 w' ∧ Sl Rep.i w' (imm x.2.2.2.2.2.2.2.2.2.2.1) x.2.2.2.2.2.2.2.2.2.2.2.1 x.1 ∧ Blk 12 x.2.2.2.2.2.2.2.2.2.2.1 w' p24 110 [x.2.2.2.2.2.2.2.2.2.2.2.1, vi x.2.1, vi x.2.2.1] ∧ Sl Rep.u w' (imm x.2.2.2.2.2.2.2.2.2.2.1) x.2.2.2.2.2.2.2.2.2.2.2.2.1 x.2.2.2.2.2.2.1 ∧ Sl Rep.u w' (imm x.2.2.2.2.2.2.2.2.2.2.1) x.2.2.2.2.2.2.2.2.2.2.2.2.2.1 x.2.2.2.2.2.2.2.2.1 ∧ Blk 13 x.2.2.2.2.2.2.2.2.2.2.1 w' p57 27 [vi x.2.2.2.1, vu x.2.2.2.2.1, vi x.2.2.2.2.2.1, x.2.2.2.2.2.2.2.2.2.2.2.2.1, vi x.2.2.2.2.2.2.2.1, x.2.2.2.2.2.2.2.2.2.2.2.2.2.1] ∧ OwnSl 1002 Rep.u 22 x.2.2.2.2.2.2.2.2.2.2.1 w' x.2.2.2.2.2.2.2.2.2.2.2.2.2.2 x.2.2.2.2.2.2.2.2.2.1) (fun x => [(0, v0), (4, Value.pointer (some ⟨p14, 0, none⟩)), (5, Value.pointer (some ⟨p24, 0, none⟩)), (6, Value.bool same44), (7, Value.pointer (some ⟨p57, 0, none⟩)), (8, x.2.2.2.2.2.2.2.2.2.2.2.2.2.2)]) ?_ ?_
   ·refine WC.seq ?_
    refine WC.region ?_
    refine WL.y (Y.move rfl) rfl ?_
    refine WL.nil ?_
    refine At.then ?_
    rcases cnd h with ⟨hc89, h⟩ | ⟨hc89, h⟩
    ·refine WC.condT' rfl hc89 ?_
     refine WC.seq ?_
     refine WC.region ?_
     refine WL.y (Y.move rfl) rfl ?_
     refine WL.y (Y.move rfl) rfl ?_
     have hf90 := hf11.mono (imm_st hst17 rfl rfl)
     have hf91 := hf90.mono (imm_st hst27 rfl rfl)
     have hf92 := hf91.mono (imm_st hst41 rfl rfl)
     have hf93 := hf92.mono (imm_st hst60 rfl rfl)
     have hf94 := hf93.mono (imm_st hst62 rfl rfl)
     refine WL.y (Y.len ty45 rfl hf94) rfl ?_
     refine WL.y (Y.sub_i rfl rfl) rfl ?_
     obtain ⟨e95, he95, h⟩ := bnd h
     obtain ⟨b96, off108, cap103, cs102, hv97, hi98, hl99, hc100, hok101, hA109⟩ := Sl.at2 hf94 he95
     obtain ⟨_, _, rfl, rfl, ⟨_, _, rfl, rfl, ⟨_, _, rfl, ⟨_, _, rfl, rfl, ⟨v104, rfl, hf105⟩⟩, ⟨_, _, rfl, rfl, ⟨v106, rfl, hf107⟩⟩⟩⟩⟩ := hok101
     replace hc100 : CellsAt _ _ _ [vi e95.Scale, vu e95.Zero, vi e95.Pos.Offset, v104, vi e95.Neg.Offset, v106] := hc100
     have hca110 := CAt.imm hc100 hA109
     refine WL.y (Y.indexAddr ty45 ty27 rfl hv97 rfl hi98 hl99) rfl ?_
     refine WL.y (Y.loadAg ty27 rfl rfl hca110.at_ rfl) rfl ?_
     have hh114 := h
     obtain ⟨p111, m112, c113, rfl⟩ := hf105.shape
     have h := hh114
     have hh118 := h
     obtain ⟨p115, m116, c117, rfl⟩ := hf107.shape
     have h := hh118
     refine WL.store (v := Value.agg (List.toArray [vi e95.Scale, vu e95.Zero, vi e95.Pos.Offset, (Value.slice p111 m112 c113), vi e95.Neg.Offset, (Value.slice p115 m116 c117)])) (cells' := [vi e95.Scale, vu e95.Zero, vi e95.Pos.Offset, (Value.slice p111 m112 c113), vi e95.Neg.Offset, (Value.slice p115 m116 c117)]) ty27 rfl rfl hb63 rfl (Nat.le_of_ble_eq_true rfl) rfl rfl ?_
     intro wd119 hst120 hb121
     refine WL.nil ?_
     refine At.then ?_
     refine WC.region ?_
     refine WL.y (Y.loadAg ty27 rfl rfl (hb121.cells 0 [vi e95.Scale, vu e95.Zero, vi e95.Pos.Offset, (Value.slice p111 m112 c113), vi e95.Neg.Offset, (Value.slice p115 m116 c117)] rfl) rfl) rfl ?_
     have hf122 := hf105.mono (imm_st hst120 rfl rfl)
     have hf123 := hf107.mono (imm_st hst120 rfl rfl)
     obtain ⟨r124, hp125, h⟩ := bnd h
     refine WL.call (vals := [Value.agg (List.toArray [vi e95.Scale, vu e95.Zero, vi e95.Pos.Offset, (Value.slice p111 m112 c113), vi e95.Neg.Offset, (Value.slice p115 m116 c117)])]) kok77 rfl rfl (c_ref10_all (A := fun _ => True) (a0 := e95) (Sl.all hf122) (Sl.all hf123) hp125) ?_
     rintro vr130 wd129 ⟨_, rfl, hm128, f127⟩
     obtain ⟨O131, hold132, hnew133, hst134⟩ := adoptE O58 (fun k => if Value.ownBlock vr130 = some k then 14 else 1) hm128
     have hf135 : OwnSl 14 Rep.u 22 O131 wd129 vr130 r124 := RowF.adopt 14 Flat.u f127 hnew133 (fun k hk => if_pos hk)
     refine WL.y (Y.assign rfl) rfl ?_
     refine WL.nil ?_
     obtain ⟨O136, hst137, ho138⟩ := OwnSl.rlb 1002 rfl hf135
     have hf139 := hf42.mono (imm_st hst60 rfl rfl)
     have hf140 := hf139.mono (imm_st hst62 rfl rfl)
     have hf141 := hf140.mono (imm_st hst120 rfl rfl)
     have hf142 := hf141.mono (imm_st hst134 rfl rfl)
     have hf143 := hf142.mono (imm_st hst137 rfl rfl)
     have hf144 := hb43.st hst60 rfl
     have hf145 := hf144.st hst62 rfl
     have hf146 := hf145.st hst120 rfl
     have hf147 := hf146.st hst134 rfl
     have hf148 := hf147.st hst137 rfl
     have hf149 := hf122.mono (imm_st hst134 rfl rfl)
     have hf150 := hf149.mono (imm_st hst137 rfl rfl)
     have hf151 := hf123.mono (imm_st hst134 rfl rfl)
     have hf152 := hf151.mono (imm_st hst137 rfl rfl)
     have hf153 := hb121.st hst134 rfl
     have hf154 := hf153.st hst137 rfl
     exact At.join (σ := (List Int × Int × Int × Int × UInt64 × Int × List UInt64 × Int × List UInt64 × List UInt64 × Own × Value × Value × Value × Value)) (r30.L, r30.At, r30.E, e95.Scale, e95.Zero, e95.Pos.Offset, e95.Pos.Counts, e95.Neg.Offset, e95.Neg.Counts, r124, O136, z32, (Value.slice p111 m112 c113), (Value.slice p115 m116 c117), vr130) ⟨some1 h, (Stp.trans (Stp.up hst120 rfl) (Stp.trans (Stp.up hst134 rfl) (Stp.up hst137 rfl))), hf143, hf148, hf150, hf152, hf154, ho138⟩ (.cons rfl (.cons rfl (.cons rfl (.cons rfl (.cons rfl (.cons rfl .nil))))))
    ·refine WC.condF' rfl hc89 ?_
     refine WC.seq ?_
     refine WC.region ?_
     refine WL.y (Y.move rfl) rfl ?_
     have hf155 := hb43.st hst60 rfl
     have hf156 := hf155.st hst62 rfl
     have hf157 := hf42.mono (imm_st hst60 rfl rfl)
     have hf158 := hf157.mono (imm_st hst62 rfl rfl)
     obtain ⟨⟨r159, r160⟩, hp161, h⟩ := bnd h
     refine WL.call (vals := [Value.pointer (some ⟨p24, 0, none⟩), vi 5]) kok76 rfl rfl (c_ref10_State_bits (A := imm O58) (a0 := r30) hf158 hf156.blk (fun k hk => imm_ne hf156.lab rfl k hk) hp161) ?_
     rintro vr167 wd166 ⟨z162, rfl, hm165, f163, f164⟩
     obtain ⟨O168, hold169, hnew170, hst171⟩ := adopt O58 (fun k => 1) [12] hm165 (memB hf156.lab rfl)
     have hf172 : Sl Rep.i wd166 (imm O168) z162 r160.L := Sl.adoptI (O := O58) f163 (fun _ hk => hk) (fun _ _ => Nat.le_refl _) hold169 hnew170
     have hb173 : Blk 12 O168 wd166 p24 110 [z162, vi r160.At, vi r160.E] := Blk.adopt hf156 hold169 f164
     refine WL.y (Y.sub_i rfl rfl) rfl ?_
     refine WL.y (Y.fieldAddr fo27_0 rfl) rfl ?_
     obtain ⟨t174, ht174, h⟩ := lt1 h
     refine WL.ren 40 rfl (congrArg vi ht174.symm) ?_
     have hf175 := hb63.st hst171 rfl
     refine WL.store (v := vi t174) (cells' := [vi t174, vu 0, vi 0, Value.slice none 0 0, vi 0, Value.slice none 0 0]) ty3 rfl rfl hf175 rfl (Nat.le_of_ble_eq_true rfl) rfl rfl ?_
     intro wd176 hst177 hb178
     refine WL.nil ?_
     refine At.then ?_
     refine WC.seq ?_
     refine WC.region ?_
     refine WL.y (Y.move rfl) rfl ?_
     have hf179 := hb173.st hst177 rfl
     have hf180 := hf172.mono (imm_st hst177 rfl rfl)
     obtain ⟨⟨r181, r182⟩, hp183, h⟩ := bnd h
     refine WL.call (vals := [Value.pointer (some ⟨p24, 0, none⟩)]) kok78 rfl rfl (c_ref10_State_side (A := imm O168) (a0 := r160) hf180 hf179.blk (fun k hk => imm_ne hf179.lab rfl k hk) hp183) ?_
     rintro vr191 wd190 ⟨u184, z185, rfl, hm189, f186, f187, f188⟩
     obtain ⟨O192, hold193, hnew194, hst195⟩ := adopt O168 (fun k => if Value.ownBlock u184 = some k then 15 else 1) [12] hm189 (memB hf179.lab rfl)
     have hf196 : OwnSl 15 Rep.u 22 O192 wd190 u184 r181.Counts := RowF.adopt 15 Flat.u f186 hnew194 (fun k hk => if_pos hk)
     have hf197 : Sl Rep.i wd190 (imm O192) z185 r182.L := Sl.adoptIB (O := O168) f187 (fun _ hk => hk) (fun k hk => (if_neg hk).trans rfl) hold193 hnew194
     have hb198 : Blk 12 O192 wd190 p24 110 [z185, vi r182.At, vi r182.E] := Blk.adopt hf179 hold193 f188
     refine WL.y (Y.fieldAddr fo27_2 rfl) rfl ?_
     have hh202 := h
     obtain ⟨p199, m200, c201, rfl⟩ := hf196.shape
     have h := hh202
     have hf203 := hb178.st hst195 rfl
     refine WL.store (v := Value.agg (List.toArray [vi r181.Offset, (Value.slice p199 m200 c201)])) (cells' := [vi t174, vu 0, vi r181.Offset, (Value.slice p199 m200 c201), vi 0, Value.slice none 0 0]) ty25 rfl rfl hf203 rfl (Nat.le_of_ble_eq_true rfl) rfl rfl ?_
     intro wd204 hst205 hb206
     refine WL.nil ?_
     refine At.then ?_
     refine WC.region ?_
     refine WL.y (Y.move rfl) rfl ?_
     have hf207 := hb198.st hst205 rfl
     have hf208 := hf197.mono (imm_st hst205 rfl rfl)
     obtain ⟨⟨r209, r210⟩, hp211, h⟩ := bnd h
     refine WL.call (vals := [Value.pointer (some ⟨p24, 0, none⟩)]) kok78 rfl rfl (c_ref10_State_side (A := imm O192) (a0 := r182) hf208 hf207.blk (fun k hk => imm_ne hf207.lab rfl k hk) hp211) ?_
     rintro vr219 wd218 ⟨u212, z213, rfl, hm217, f214, f215, f216⟩
     obtain ⟨O220, hold221, hnew222, hst223⟩ := adopt O192 (fun k => if Value.ownBlock u212 = some k then 16 else 1) [12] hm217 (memB hf207.lab rfl)
     have hf224 : OwnSl 16 Rep.u 22 O220 wd218 u212 r209.Counts := RowF.adopt 16 Flat.u f214 hnew222 (fun k hk => if_pos hk)
     have hf225 : Sl Rep.i wd218 (imm O220) z213 r210.L := Sl.adoptIB (O := O192) f215 (fun _ hk => hk) (fun k hk => (if_neg hk).trans rfl) hold221 hnew222
     have hb226 : Blk 12 O220 wd218 p24 110 [z213, vi r210.At, vi r210.E] := Blk.adopt hf207 hold221 f216
     refine WL.y (Y.fieldAddr fo27_3 rfl) rfl ?_
     have hh230 := h
     obtain ⟨p227, m228, c229, rfl⟩ := hf224.shape
     have h := hh230
     have hf231 := hb206.st hst223 rfl
     refine WL.store (v := Value.agg (List.toArray [vi r209.Offset, (Value.slice p227 m228 c229)])) (cells' := [vi t174, vu 0, vi r181.Offset, (Value.slice p199 m200 c201), vi r209.Offset, (Value.slice p227 m228 c229)]) ty25 rfl rfl hf231 rfl (Nat.le_of_ble_eq_true rfl) rfl rfl ?_
     intro wd232 hst233 hb234
     refine WL.nil ?_
     have hf235 := hf196.st hst205 rfl rfl rfl
     have hf236 := hf235.st hst223 rfl rfl rfl
     have hf237 := hf236.st hst233 rfl rfl rfl
     obtain ⟨O238, hst239, hf240⟩ := OwnSl.giveF rfl Flat.u hf237
     have hf241 := hf224.st hst233 rfl rfl rfl
     have hf242 := hf241.st hst239 rfl rfl rfl
     obtain ⟨O243, hst244, hf245⟩ := OwnSl.giveF rfl Flat.u hf242
     have hf246 := hf225.mono (imm_st hst233 rfl rfl)
     have hf247 := hf246.mono (imm_st hst239 rfl rfl)
     have hf248 := hf247.mono (imm_st hst244 rfl rfl)
     have hf249 := hb226.st hst233 rfl
     have hf250 := hf249.st hst239 rfl
     have hf251 := hf250.st hst244 rfl
     have hf252 := hf240.mono (frs_st hst244 rfl)
     have hf253 := hb234.st hst239 rfl
     have hf254 := hf253.st hst244 rfl
     exact At.join (σ := (List Int × Int × Int × Int × UInt64 × Int × List UInt64 × Int × List UInt64 × List UInt64 × Own × Value × Value × Value × Value)) (r210.L, r210.At, r210.E, t174, 0, r181.Offset, r181.Counts, r209.Offset, r209.Counts, [], O243, z213, (Value.slice p199 m200 c201), (Value.slice p227 m228 c229), Value.slice none 0 0) ⟨some1 h, (Stp.trans (Stp.up hst171 rfl) (Stp.trans (Stp.up hst177 rfl) (Stp.trans (Stp.up hst195 rfl) (Stp.trans (Stp.up hst205 rfl) (Stp.trans (Stp.up hst223 rfl) (Stp.trans (Stp.up hst233 rfl) (Stp.trans (Stp.up hst239 rfl) (Stp.up hst244 rfl)))))))), hf248, hf251, (Sl.mono hf252 frs_imm), (Sl.mono hf245 frs_imm), hf254, (OwnSl.nil 1002 Rep.u 22)⟩ (.cons rfl (.cons rfl (.cons rfl (.cons rfl (.cons rfl (.cons rfl .nil))))))
   ·rintro ⟨c65, c68, c69, c71, c72, c73, c74, c77, c78, was81, O84, v66, v75, v79, v82⟩ wd85 ⟨rfl, hst86, hf67, hb64, hf76, hf80, hb70, hf83⟩
    replace h := hk88
    try dsimp only at h hst86 hf67 hb64 hf76 hf80 hb70 hf83
    refine (show At _ _ _ [(0, v0), (4, Value.pointer (some ⟨p14, 0, none⟩)), (5, Value.pointer (some ⟨p24, 0, none⟩)), (6, Value.bool same44), (7, Value.pointer (some ⟨p57, 0, none⟩)), (8, v82)] _ from ?_)
    refine At.then ?_
    refine WC.seq ?_
    refine WC.region ?_
    refine WL.y (Y.assign rfl) rfl ?_
    refine WL.nil ?_
    refine At.then ?_
    refine WC.seq ?_
    refine WC.region ?_
    refine WL.y (Y.fieldAddr fo27_2 rfl) rfl ?_
    refine WL.y (Y.fieldAddr fo25_1 rfl) rfl ?_
    refine WL.y (Y.loadSc ty23 rfl rfl (hb70.cell 3 _ rfl)) rfl ?_
    refine WL.y (Y.len ty23 rfl hf76) rfl ?_
    refine WL.y (Y.add_i rfl rfl) rfl ?_
    refine WL.y (Y.fieldAddr fo27_3 rfl) rfl ?_
    refine WL.y (Y.fieldAddr fo25_1 rfl) rfl ?_
    refine WL.y (Y.loadSc ty23 rfl rfl (hb70.cell 5 _ rfl)) rfl ?_
    refine WL.y (Y.len ty23 rfl hf80) rfl ?_
    refine WL.y (Y.add_i rfl rfl) rfl ?_
    obtain ⟨nv255, hnv255, h⟩ := lt1 h
    refine WL.yE (Y.assign rfl) (congrArg vi hnv255.symm) rfl ?_
    refine WL.nil ?_
    refine At.then ?_
    refine WC.seq ?_
    refine WC.seq ?_
    refine WC.region ?_
    refine WL.y (Y.assign rfl) rfl ?_
    refine WL.nil ?_
    refine At.then ?_
    obtain ⟨p268, h, hk269⟩ := bnd h
    refine WC.join (σ := (List Int × Int × Int × List UInt64 × Own × Value × Value)) (fun x w' => (x.1, x.2.1, x.2.2.1, x.2.2.2.1) = p268 ∧ Stp [12, 18, 1004, 1006, 1010] O84 wd85 x.2.2.2.2.1 w' ∧ Sl Rep.i w' (imm x.2.2.2.2.1) x.2.2.2.2.2.1 x.1 ∧ Blk 12 x.2.2.2.2.1 w' p24 110 [x.2.2.2.2.2.1, vi x.2.1, vi x.2.2.1] ∧ OwnSl 1019 Rep.u 22 x.2.2.2.2.1 w' x.2.2.2.2.2.2 x.2.2.2.1) (fun x => [(0, v0), (4, Value.pointer (some ⟨p14, 0, none⟩)), (5, Value.pointer (some ⟨p24, 0, none⟩)), (6, Value.bool same44), (7, Value.pointer (some ⟨p57, 0, none⟩)), (9, x.2.2.2.2.2.2)]) ?_ ?_
    ·refine WC.block ?_
     obtain ⟨p295, h, hk297⟩ := flow1 h
     obtain ⟨k296, h⟩ := loop_some h
     refine WC.joinB 0 (σ := (List Int × Int × Int × List UInt64 × Own × Value × Value)) (fun x w' => p295 = .go (x.1, x.2.1, x.2.2.1, x.2.2.2.1) ∧ Stp [12, 18, 1004, 1006] O84 wd85 x.2.2.2.2.1 w' ∧ Sl Rep.i w' (imm x.2.2.2.2.1) x.2.2.2.2.2.1 x.1 ∧ Blk 12 x.2.2.2.2.1 w' p24 110 [x.2.2.2.2.2.1, vi x.2.1, vi x.2.2.1] ∧ OwnSl 1010 Rep.u 22 x.2.2.2.2.1 w' x.2.2.2.2.2.2 x.2.2.2.1) (fun x => [(0, v0), (4, Value.pointer (some ⟨p14, 0, none⟩)), (5, Value.pointer (some ⟨p24, 0, none⟩)), (6, Value.bool same44), (7, Value.pointer (some ⟨p57, 0, none⟩)), (9, x.2.2.2.2.2.2)]) ?_ ?_
     ·refine WC.loop (σ := (List Int × Int × Int × List UInt64 × Int × Own × Value × Value)) (fun x k w' => loopN k (ref10_Get_lp1 same44 was81 nv255) (x.1, x.2.1, x.2.2.1, x.2.2.2.1, x.2.2.2.2.1) = some p295 ∧ Stp [12, 18, 1004, 1006] O84 wd85 x.2.2.2.2.2.1 w' ∧ Sl Rep.i w' (imm x.2.2.2.2.2.1) x.2.2.2.2.2.2.1 x.1 ∧ Blk 12 x.2.2.2.2.2.1 w' p24 110 [x.2.2.2.2.2.2.1, vi x.2.1, vi x.2.2.1] ∧ OwnSl 1006 Rep.u 22 x.2.2.2.2.2.1 w' x.2.2.2.2.2.2.2 x.2.2.2.1) (fun x => [(0, v0), (4, Value.pointer (some ⟨p14, 0, none⟩)), (5, Value.pointer (some ⟨p24, 0, none⟩)), (6, Value.bool same44), (7, Value.pointer (some ⟨p57, 0, none⟩)), (8, v82), (9, x.2.2.2.2.2.2.2), (10, vi nv255), (11, vi x.2.2.2.2.1)]) (c65, c68, c69, [], 0, O84, v66, Value.slice none 0 0) k296 (.cons rfl (.cons rfl (.cons rfl (.cons rfl (.cons rfl (.cons rfl (.cons rfl (.cons rfl (.cons rfl .nil))))))))) ⟨h, (Stp.refl _ _ _), hf67, hb64, (OwnSl.nil 1006 Rep.u 22)⟩ ?_
      rintro ⟨c271, c274, c275, now276, i279, O280, v272, v277⟩ k296 wd281 ⟨h, hst282, hf273, hb270, hf278⟩
      obtain ⟨j298, q299, rfl, h, hn300⟩ := rnd1 h
      unfold ref10_Get_lp1 at h
      try dsimp only at h hst282 hf273 hb270 hf278
      refine (show WC _ _ _ _ [(0, v0), (4, Value.pointer (some ⟨p14, 0, none⟩)), (5, Value.pointer (some ⟨p24, 0, none⟩)), (6, Value.bool same44), (7, Value.pointer (some ⟨p57, 0, none⟩)), (8, v82), (9, v277), (10, vi nv255), (11, vi i279)] _ from ?_)
      refine WC.seq ?_
      refine WC.seq ?_
      refine WC.region ?_
      refine WL.y (Y.move rfl) rfl ?_
      refine WL.y (Y.move rfl) rfl ?_
      refine WL.y (Y.lss_i rfl rfl) rfl ?_
      refine WL.nil ?_
      refine At.then ?_
      rcases cnd h with ⟨hc301, h⟩ | ⟨hc301, h⟩
      ·refine WC.condT' rfl hc301 ?_
       refine WC.skip ?_
       refine At.then ?_
       refine WC.seq ?_
       obtain ⟨p314, h, hk315⟩ := bnd h
       refine WC.join (σ := (List Int × Int × Int × List UInt64 × Own × Value × Value)) (fun x w' => (x.1, x.2.1, x.2.2.1, x.2.2.2.1) = p314 ∧ Stp [12, 1006] O280 wd281 x.2.2.2.2.1 w' ∧ Sl Rep.i w' (imm x.2.2.2.2.1) x.2.2.2.2.2.1 x.1 ∧ Blk 12 x.2.2.2.2.1 w' p24 110 [x.2.2.2.2.2.1, vi x.2.1, vi x.2.2.1] ∧ OwnSl 1004 Rep.u 22 x.2.2.2.2.1 w' x.2.2.2.2.2.2 x.2.2.2.1) (fun x => [(0, v0), (4, Value.pointer (some ⟨p14, 0, none⟩)), (5, Value.pointer (some ⟨p24, 0, none⟩)), (6, Value.bool same44), (7, Value.pointer (some ⟨p57, 0, none⟩)), (8, v82), (9, x.2.2.2.2.2.2), (10, vi nv255), (11, vi i279)]) ?_ ?_
       ·refine WC.block ?_
        refine WC.seq ?_
        refine WC.region ?_
        refine WL.y (Y.move rfl) rfl ?_
        obtain ⟨⟨r316, r317⟩, hp318, h⟩ := bnd h
        refine WL.call (vals := [Value.pointer (some ⟨p24, 0, none⟩)]) kok79 rfl rfl (c_ref10_State_small (A := imm O280) (a0 := (ref10_State.mk c271 c274 c275)) hf273 hb270.blk (fun k hk => imm_ne hb270.lab rfl k hk) hp318) ?_
        rintro vr324 wd323 ⟨z319, rfl, hm322, f320, f321⟩
        obtain ⟨O325, hold326, hnew327, hst328⟩ := adopt O280 (fun k => 1) [12] hm322 (memB hb270.lab rfl)
        have hf329 : Sl Rep.i wd323 (imm O325) z319 r317.L := Sl.adoptI (O := O280) f320 (fun _ hk => hk) (fun _ _ => Nat.le_refl _) hold326 hnew327
        have hb330 : Blk 12 O325 wd323 p24 110 [z319, vi r317.At, vi r317.E] := Blk.adopt hb270 hold326 f321
        refine WL.y (Y.assign rfl) rfl ?_
        refine WL.nil ?_
        refine At.then ?_
        refine WC.seq ?_
        obtain ⟨p335, h, hk336⟩ := bnd h
        refine WC.join (σ := (UInt64 × Own)) (fun x w' => x.1 = p335 ∧ Stp [] O325 wd323 x.2 w') (fun x => [(0, v0), (4, Value.pointer (some ⟨p14, 0, none⟩)), (5, Value.pointer (some ⟨p24, 0, none⟩)), (6, Value.bool same44), (7, Value.pointer (some ⟨p57, 0, none⟩)), (8, v82), (9, v277), (10, vi nv255), (11, vi i279), (12, vu x.1)]) ?_ ?_
        ·refine WC.seq ?_
         refine WC.region ?_
         refine WL.y (Y.move rfl) rfl ?_
         refine WL.nil ?_
         refine At.then ?_
         rcases cnd h with ⟨hc337, h⟩ | ⟨hc337, h⟩
         ·refine WC.condT' rfl hc337 ?_
          refine WC.drawH [] [0, 1, 2, 3, 4, 5, 6, 7, 8] O325 9 fmix rfl (by kernel_rfl) ?_
          intro wd338 hst339
          refine WD.y 0 rfl (by kernel_rfl) (fun _ _ _ => Y.move rfl) rfl ?_
          refine WD.y 1 rfl (by kernel_rfl) (fun _ _ _ => Y.move rfl) rfl ?_
          obtain ⟨e346, he346, h⟩ := bnd h
          have hf355 := hf83.st hst282 rfl rfl rfl
          have hf356 := hf355.st hst328 rfl rfl rfl
          have hf357 := hf356.st hst339 rfl rfl rfl
          obtain ⟨b347, cap354, cs353, hv348, hi349, hl350, hc351, hok352⟩ := OwnSl.at hf357 he346
          obtain rfl := hok352
          replace hc351 : CellsAt _ _ _ [vu e346] := hc351
          have hca358 := CAt.own hf357 hv348 hc351
          refine WD.y 2 rfl (by kernel_rfl) (fun _ _ _ => Y.indexAddr ty23 ty22 rfl hv348 rfl hi349 hl350) rfl ?_
          refine WD.y 3 rfl (by kernel_rfl) (fun wd363 O362 hst364 => have hf365 := hca358.st hst364 rfl; Y.loadSc ty22 rfl rfl hf365.at_) rfl ?_
          refine WD.y 4 rfl (by kernel_rfl) (fun _ _ _ => Y.move rfl) rfl ?_
          refine WD.heavy 5 rfl (by kernel_rfl) ?_
          obtain ⟨r369, hp370, h⟩ := bnd h
          refine WL.call (vals := [vu r316]) kok80 rfl rfl (c_ref02_Zag hp370) ?_
          rintro vr373 wd372 ⟨rfl, hm371⟩
          obtain ⟨O374, hold375, hnew376, hst377⟩ := adoptE O325 (fun k => 1) hm371
          refine WL.nil ?_
          refine At.dq (Stp.up hst377 rfl) ?_
          refine WD.y 6 rfl (by kernel_rfl) (fun _ _ _ => Y.conv_iu ty3.u ty22.u rfl) rfl ?_
          refine WD.y 7 rfl (by kernel_rfl) (fun _ _ _ => Y.add_u rfl rfl) rfl ?_
          obtain ⟨v384, hv384, h⟩ := lt1 h
          refine WD.yE 8 rfl (by kernel_rfl) (fun _ _ _ => Y.assign rfl) (congrArg vu hv384.symm) rfl ?_
          refine WD.done_ (by kernel_rfl) ?_
          exact At.join (σ := (UInt64 × Own)) (v384, O374) ⟨some1 h, (Stp.trans (Stp.up hst339 rfl) (Stp.up hst377 rfl))⟩ (.cons rfl (.cons rfl (.cons rfl (.cons rfl (.cons rfl (.cons rfl (.cons rfl (.cons rfl (.cons rfl (.cons rfl .nil))))))))))
         ·refine WC.condF' rfl hc337 ?_
          refine WC.skip ?_
          exact At.join (σ := (UInt64 × Own)) (r316, O325) ⟨some1 h, (Stp.refl _ _ _)⟩ (.cons rfl (.cons rfl (.cons rfl (.cons rfl (.cons rfl (.cons rfl (.cons rfl (.cons rfl (.cons rfl (.cons rfl .nil))))))))))
        ·rintro ⟨v331, O332⟩ wd333 ⟨rfl, hst334⟩
         replace h := hk336
         try dsimp only at h hst334
         refine (show At _ _ _ [(0, v0), (4, Value.pointer (some ⟨p14, 0, none⟩)), (5, Value.pointer (some ⟨p24, 0, none⟩)), (6, Value.bool same44), (7, Value.pointer (some ⟨p57, 0, none⟩)), (8, v82), (9, v277), (10, vi nv255), (11, vi i279), (12, vu v331)] _ from ?_)
         refine At.then ?_
         refine WC.region ?_
         refine WL.y (Y.move rfl) rfl ?_
         refine WL.y (Y.move rfl) rfl ?_
         refine WL.buildSlice (O := O332) (R := Rep.u) (vals := [(0, vu v331)]) 17 [vu v331] (xs := [v331]) (by decide) ty23 ty22 (by decide) (by decide) (Fits.evalp rfl) (by kernel_rfl) rfl ⟨[vu v331], [], rfl, rfl, rfl⟩ rfl ?_
         intro v388 O390 wd391 hst392 ho389
         obtain ⟨xs393, hxs393, h⟩ := bnd h
         have hf394 := hf278.st hst328 rfl rfl rfl
         have hf395 := hf394.st hst334 rfl rfl rfl
         have hf396 := hf395.st hst392 rfl rfl rfl
         refine WL.append (by decide) ty23 ty22 rfl (by decide) rfl rfl hf396 ho389.src hxs393 rfl ?_
         intro v400 O397 wd398 hst399 ho401
         refine WL.y (Y.assign rfl) rfl ?_
         refine WL.nil ?_
         refine At.inBlock ?_
         obtain ⟨O402, hst403, ho404⟩ := OwnSl.rlb 1004 rfl ho401
         have hf405 := hf329.mono (imm_st hst334 rfl rfl)
         have hf406 := hf405.mono (imm_st hst392 rfl rfl)
         have hf407 := hf406.mono (imm_st hst399 rfl rfl)
         have hf408 := hf407.mono (imm_st hst403 rfl rfl)
         have hf409 := hb330.st hst334 rfl
         have hf410 := hf409.st hst392 rfl
         have hf411 := hf410.st hst399 rfl
         have hf412 := hf411.st hst403 rfl
         exact At.join (σ := (List Int × Int × Int × List UInt64 × Own × Value × Value)) (r317.L, r317.At, r317.E, xs393, O402, z319, v400) ⟨some1 h, (Stp.trans (Stp.up hst328 rfl) (Stp.trans (Stp.up hst334 rfl) (Stp.trans (Stp.up hst392 rfl) (Stp.trans (Stp.up hst399 rfl) (Stp.up hst403 rfl))))), hf408, hf412, ho404⟩ (.cons rfl (.cons rfl (.cons rfl (.cons rfl (.cons rfl (.cons rfl (.cons rfl (.cons rfl (.cons rfl .nil)))))))))
       ·rintro ⟨c303, c306, c307, now308, O311, v304, v309⟩ wd312 ⟨rfl, hst313, hf305, hb302, hf310⟩
        replace h := hk315
        try dsimp only at h hst313 hf305 hb302 hf310
        refine (show At _ _ _ [(0, v0), (4, Value.pointer (some ⟨p14, 0, none⟩)), (5, Value.pointer (some ⟨p24, 0, none⟩)), (6, Value.bool same44), (7, Value.pointer (some ⟨p57, 0, none⟩)), (8, v82), (9, v309), (10, vi nv255), (11, vi i279)] _ from ?_)
        refine At.then ?_
        refine WC.region ?_
        refine WL.y (Y.move rfl) rfl ?_
        refine WL.y (Y.add_i rfl rfl) rfl ?_
        obtain ⟨i413, hi413, h⟩ := lt1 h
        refine WL.yE (Y.assign rfl) (congrArg vi hi413.symm) rfl ?_
        refine WL.nil ?_
        obtain ⟨O414, hst415, ho416⟩ := OwnSl.rlb 1006 rfl hf310
        have hf417 := hf305.mono (imm_st hst415 rfl rfl)
        have hf418 := hb302.st hst415 rfl
        exact At.round (c303, c306, c307, now308, i413, O414, v304, v309) j298 (Nat.lt_succ_self _) ⟨next1 h hn300, (Stp.trans (Stp.up hst282 rfl) (Stp.trans (Stp.up hst313 rfl) (Stp.up hst415 rfl))), hf417, hf418, ho416⟩ (.cons rfl (.cons rfl (.cons rfl (.cons rfl (.cons rfl (.cons rfl (.cons rfl (.cons rfl (.cons rfl .nil)))))))))
      ·refine WC.condF' rfl hc301 ?_
       refine WC.exit ?_
       refine At.thenX ?_
       refine At.loopX ?_
       obtain ⟨O419, hst420, ho421⟩ := OwnSl.rlb 1010 rfl hf278
       have hf422 := hf273.mono (imm_st hst420 rfl rfl)
       have hf423 := hb270.st hst420 rfl
       exact At.hitB (σ := (List Int × Int × Int × List UInt64 × Own × Value × Value)) (c271, c274, c275, now276, O419, v272, v277) ⟨brk1 h hn300, (Stp.trans (Stp.up hst282 rfl) (Stp.up hst420 rfl)), hf422, hf423, ho421⟩ (.cons rfl (.cons rfl (.cons rfl (.cons rfl (.cons rfl (.cons rfl .nil))))))
     ·rintro ⟨c284, c287, c288, now289, O292, v285, v290⟩ wd293 ⟨rfl, hst294, hf286, hb283, hf291⟩
      replace h := flowK_go hk297
      try dsimp only at h hst294 hf286 hb283 hf291
      refine (show At _ _ _ [(0, v0), (4, Value.pointer (some ⟨p14, 0, none⟩)), (5, Value.pointer (some ⟨p24, 0, none⟩)), (6, Value.bool same44), (7, Value.pointer (some ⟨p57, 0, none⟩)), (9, v290)] _ from ?_)
      refine At.inBlockHit ?_
      obtain ⟨O424, hst425, ho426⟩ := OwnSl.rlb 1019 rfl hf291
      have hf427 := hf286.mono (imm_st hst425 rfl rfl)
      have hf428 := hb283.st hst425 rfl
      exact At.join (σ := (List Int × Int × Int × List UInt64 × Own × Value × Value)) (c284, c287, c288, now289, O424, v285, v290) ⟨some1 h, (Stp.trans (Stp.up hst294 rfl) (Stp.up hst425 rfl)), hf427, hf428, ho426⟩ (.cons rfl (.cons rfl (.cons rfl (.cons rfl (.cons rfl (.cons rfl .nil))))))
    ·rintro ⟨c257, c260, c261, now262, O265, v258, v263⟩ wd266 ⟨rfl, hst267, hf259, hb256, hf264⟩
     replace h := hk269
     try dsimp only at h hst267 hf259 hb256 hf264
     refine (show At _ _ _ [(0, v0), (4, Value.pointer (some ⟨p14, 0, none⟩)), (5, Value.pointer (some ⟨p24, 0, none⟩)), (6, Value.bool same44), (7, Value.pointer (some ⟨p57, 0, none⟩)), (9, v263)] _ from ?_)
     refine At.then ?_
     refine WC.seq ?_
     refine WC.seq ?_
     refine WC.region ?_
     refine WL.y (Y.move rfl) rfl ?_
     refine WL.y (Y.nilCheck rfl) rfl ?_
     refine WL.y (Y.fieldAddr fo110_2 rfl) rfl ?_
     refine WL.y (Y.loadSc ty32 rfl rfl (hb256.cell 2 _ rfl)) rfl ?_
     refine WL.y (Y.neq_i rfl rfl) rfl ?_
     refine WL.nil ?_
     refine At.then ?_
     rcases cnd h with ⟨hc429, h⟩ | ⟨hc429, h⟩
     ·refine WC.condT' rfl hc429 ?_
      refine WC.seq ?_
      refine WC.region ?_
      refine WL.y (Y.move rfl) rfl ?_
      refine WL.y (Y.nilCheck rfl) rfl ?_
      refine WL.y (Y.fieldAddr fo110_2 rfl) rfl ?_
      refine WL.y (Y.loadSc ty32 rfl rfl (hb256.cell 2 _ rfl)) rfl ?_
      refine WL.y (Y.build (vals := [(2, vi c261)]) (cells := [vi 0, vu 0, vi 0, Value.slice none 0 0, vi 0, Value.slice none 0 0, vi 0, vi c261]) (Fits.evalp rfl) (by kernel_rfl)) rfl ?_
      have hf430 := hb13.st hst27 rfl
      have hf431 := hf430.st hst41 rfl
      have hf432 := hf431.st hst60 rfl
      have hf433 := hf432.st hst62 rfl
      have hf434 := hf433.st hst86 rfl
      have hf435 := hf434.st hst267 rfl
      refine WL.store (v := Value.agg (List.toArray [vi 0, vu 0, vi 0, Value.slice none 0 0, vi 0, Value.slice none 0 0, vi 0, vi c261])) (cells' := [vi 0, vu 0, vi 0, Value.slice none 0 0, vi 0, Value.slice none 0 0, vi 0, vi c261]) ty67 rfl rfl hf435 rfl (Nat.le_of_ble_eq_true rfl) rfl rfl ?_
      intro wd436 hst437 hb438
      refine WL.nil ?_
      refine At.then ?_
      refine WC.ret ?_
      refine At.thenR ?_
      obtain rfl := some1 h
      have hs439 : Stp [11, 12, 13, 14, 15, 16, 18, 1004, 1006, 1010] (Lg.O0 A) w O265 wd436 := (Stp.trans (Stp.up hst17 rfl) (Stp.trans (Stp.up hst27 rfl) (Stp.trans (Stp.up hst41 rfl) (Stp.trans (Stp.up hst60 rfl) (Stp.trans (Stp.up hst62 rfl) (Stp.trans (Stp.up hst86 rfl) (Stp.trans (Stp.up hst267 rfl) (Stp.up hst437 rfl))))))))
      exact At.res (.inl rfl) rfl (.cell rfl (hb438.runAg 0 [vi 0, vu 0, vi 0, Value.slice none 0 0, vi 0, Value.slice none 0 0, vi 0, vi c261] ty67 rfl rfl rfl) .nil) ⟨Value.slice none 0 0, Value.slice none 0 0, rfl, (Stp.ext hs439 rfl rfl), (Or.inl ⟨rfl, rfl⟩), (Or.inl ⟨rfl, rfl⟩)⟩
     ·refine WC.condF' rfl hc429 ?_
      refine WC.skip ?_
      refine At.then ?_
      refine WC.seq ?_
      refine WC.region ?_
      refine WL.y (Y.fieldAddr fo27_2 rfl) rfl ?_
      refine WL.y (Y.fieldAddr fo25_1 rfl) rfl ?_
      have hf440 := hb70.st hst267 rfl
      refine WL.y (Y.loadSc ty23 rfl rfl (hf440.cell 3 _ rfl)) rfl ?_
      have hf441 := hf76.mono (imm_st hst267 rfl rfl)
      refine WL.y (Y.len ty23 rfl hf441) rfl ?_
      refine WL.y (Y.add_i rfl rfl) rfl ?_
      obtain ⟨k442, hk442, h⟩ := lt1 h
      refine WL.yE (Y.assign rfl) (congrArg vi hk442.symm) rfl ?_
      refine WL.nil ?_
      refine At.then ?_
      refine WC.seq ?_
      refine WC.region ?_
      refine WL.y (Y.move rfl) rfl ?_
      obtain ⟨e443, he443, h⟩ := bnd h
      obtain ⟨b444, cap451, cs450, hv445, hi446, hl447, hc448, hok449⟩ := OwnSl.at hf264 he443
      obtain rfl := hok449
      replace hc448 : CellsAt _ _ _ [vu e443] := hc448
      have hca452 := CAt.own hf264 hv445 hc448
      refine WL.y (Y.indexAddr ty23 ty22 rfl hv445 rfl hi446 hl447) rfl ?_
      refine WL.y (Y.loadSc ty22 rfl rfl hca452.at_) rfl ?_
      refine WL.y (Y.fieldAddr fo27_1 rfl) rfl ?_
      refine WL.store (v := vu e443) (cells' := [vi c71, vu e443, vi c73, v75, vi c77, v79]) ty22 rfl rfl hf440 rfl (Nat.le_of_ble_eq_true rfl) rfl rfl ?_
      intro wd453 hst454 hb455
      refine WL.nil ?_
      refine At.then ?_
      refine WC.seq ?_
      refine WC.region ?_
      refine WL.y (Y.move rfl) rfl ?_
      refine WL.y (Y.move rfl) rfl ?_
      obtain ⟨t456, ht456, h⟩ := bnd h
      have hf459 := hf264.st hst454 rfl rfl rfl
      obtain ⟨O460, hst461, hf462⟩ := OwnSl.giveF rfl Flat.u hf459
      obtain ⟨v457, hY463, hf458⟩ := Sl.slice (ρ := [(97, v263), (98, vi k442)]) (x := (.tmp 97)) (lo := (some (.const (.int .i64 1)))) (hi := (some (.tmp 98))) ty23 ty22 rfl rfl rfl hf462 ht456
      refine WL.y (Y.sub (.cons rfl (.cons rfl .nil)) (hY463 _ _)) rfl ?_
      refine WL.y (Y.fieldAddr fo27_2 rfl) rfl ?_
      refine WL.y (Y.fieldAddr fo25_1 rfl) rfl ?_
      have hh467 := h
      obtain ⟨p464, m465, c466, rfl⟩ := hf458.shape
      have h := hh467
      have hf468 := hb455.st hst461 rfl
      refine WL.store (v := (Value.slice p464 m465 c466)) (cells' := [vi c71, vu e443, vi c73, (Value.slice p464 m465 c466), vi c77, v79]) ty23 rfl rfl hf468 rfl (Nat.le_of_ble_eq_true rfl) rfl rfl ?_
      intro wd469 hst470 hb471
      refine WL.nil ?_
      refine At.then ?_
      refine WC.seq ?_
      refine WC.region ?_
      refine WL.y (Y.move rfl) rfl ?_
      refine WL.y (Y.move rfl) rfl ?_
      obtain ⟨t472, ht472, h⟩ := bnd h
      have hf475 := hf462.mono (frs_st hst470 rfl)
      obtain ⟨v473, hY476, hf474⟩ := Sl.slice (ρ := [(102, v263), (103, vi k442)]) (x := (.tmp 102)) (lo := (some (.tmp 103))) (hi := none) ty23 ty22 rfl rfl rfl hf475 ht472
      refine WL.y (Y.sub (.cons rfl (.cons rfl .nil)) (hY476 _ _)) rfl ?_
      refine WL.y (Y.fieldAddr fo27_3 rfl) rfl ?_
      refine WL.y (Y.fieldAddr fo25_1 rfl) rfl ?_
      have hh480 := h
      obtain ⟨p477, m478, c479, rfl⟩ := hf474.shape
      have h := hh480
      refine WL.store (v := (Value.slice p477 m478 c479)) (cells' := [vi c71, vu e443, vi c73, (Value.slice p464 m465 c466), vi c77, (Value.slice p477 m478 c479)]) ty23 rfl rfl hb471 rfl (Nat.le_of_ble_eq_true rfl) rfl rfl ?_
      intro wd481 hst482 hb483
      refine WL.nil ?_
      refine At.then ?_
      refine WC.seq ?_
      refine WC.seq ?_
      refine WC.region ?_
      refine WL.y (Y.loadAg ty27 rfl rfl (hb483.cells 0 [vi c71, vu e443, vi c73, (Value.slice p464 m465 c466), vi c77, (Value.slice p477 m478 c479)] rfl) rfl) rfl ?_
      have hf484 := hf458.mono (frs_st hst470 rfl)
      have hf485 := hf484.mono (frs_st hst482 rfl)
      have hf486 := hf474.mono (frs_st hst482 rfl)
      obtain ⟨r487, hp488, h⟩ := bnd h
      refine WL.call (vals := [Value.agg (List.toArray [vi c71, vu e443, vi c73, (Value.slice p464 m465 c466), vi c77, (Value.slice p477 m478 c479)])]) kok20 rfl rfl (c_ref08_Check (A := fun _ => True) (a0 := (api_Hist.mk c71 e443 (api_Side.mk c73 t456) (api_Side.mk c77 t472))) (Sl.all hf485) (Sl.all hf486) hp488) ?_
      rintro vr491 wd490 ⟨rfl, hm489⟩
      obtain ⟨O492, hold493, hnew494, hst495⟩ := adoptE O460 (fun k => 1) hm489
      refine WL.y (Y.assign rfl) rfl ?_
      refine WL.nil ?_
      refine At.then ?_
      refine WC.seq ?_
      refine WC.region ?_
      refine WL.y (Y.move rfl) rfl ?_
      refine WL.y (Y.neq_i rfl rfl) rfl ?_
      refine WL.nil ?_
      refine At.then ?_
      rcases cnd h with ⟨hc496, h⟩ | ⟨hc496, h⟩
      ·refine WC.condT' rfl hc496 ?_
       refine WC.seq ?_
       refine WC.region ?_
       refine WL.y (Y.move rfl) rfl ?_
       refine WL.y (Y.build (vals := [(2, vi r487)]) (cells := [vi 0, vu 0, vi 0, Value.slice none 0 0, vi 0, Value.slice none 0 0, vi 0, vi r487]) (Fits.evalp rfl) (by kernel_rfl)) rfl ?_
       have hf497 := hb13.st hst27 rfl
       have hf498 := hf497.st hst41 rfl
       have hf499 := hf498.st hst60 rfl
       have hf500 := hf499.st hst62 rfl
       have hf501 := hf500.st hst86 rfl
       have hf502 := hf501.st hst267 rfl
       have hf503 := hf502.st hst454 rfl
       have hf504 := hf503.st hst461 rfl
       have hf505 := hf504.st hst470 rfl
       have hf506 := hf505.st hst482 rfl
       have hf507 := hf506.st hst495 rfl
       refine WL.store (v := Value.agg (List.toArray [vi 0, vu 0, vi 0, Value.slice none 0 0, vi 0, Value.slice none 0 0, vi 0, vi r487])) (cells' := [vi 0, vu 0, vi 0, Value.slice none 0 0, vi 0, Value.slice none 0 0, vi 0, vi r487]) ty67 rfl rfl hf507 rfl (Nat.le_of_ble_eq_true rfl) rfl rfl ?_
       intro wd508 hst509 hb510
       refine WL.nil ?_
       refine At.then ?_
       refine WC.ret ?_
       refine At.thenR ?_
       obtain rfl := some1 h
       have hs511 : Stp [11, 12, 13, 14, 15, 16, 18, 1004, 1006, 1010, 1019] (Lg.O0 A) w O492 wd508 := (Stp.trans (Stp.up hst17 rfl) (Stp.trans (Stp.up hst27 rfl) (Stp.trans (Stp.up hst41 rfl) (Stp.trans (Stp.up hst60 rfl) (Stp.trans (Stp.up hst62 rfl) (Stp.trans (Stp.up hst86 rfl) (Stp.trans (Stp.up hst267 rfl) (Stp.trans (Stp.up hst454 rfl) (Stp.trans (Stp.up hst461 rfl) (Stp.trans (Stp.up hst470 rfl) (Stp.trans (Stp.up hst482 rfl) (Stp.trans (Stp.up hst495 rfl) (Stp.up hst509 rfl)))))))))))))
       exact At.res (.inl rfl) rfl (.cell rfl (hb510.runAg 0 [vi 0, vu 0, vi 0, Value.slice none 0 0, vi 0, Value.slice none 0 0, vi 0, vi r487] ty67 rfl rfl rfl) .nil) ⟨Value.slice none 0 0, Value.slice none 0 0, rfl, (Stp.ext hs511 rfl rfl), (Or.inl ⟨rfl, rfl⟩), (Or.inl ⟨rfl, rfl⟩)⟩
      ·refine WC.condF' rfl hc496 ?_
       refine WC.skip ?_
       refine At.then ?_
       refine WC.seq ?_
       refine WC.seq ?_
       refine WC.drawH [] [0, 1, 2, 3, 4, 5, 6, 7, 8, 9, 10, 11, 12, 13, 14, 15, 16] O492 17 fmix rfl (by kernel_rfl) ?_
       intro wd512 hst513
       refine WD.y 0 rfl (by kernel_rfl) (fun _ _ _ => Y.move rfl) rfl ?_
       refine WD.y 1 rfl (by kernel_rfl) (fun _ _ _ => Y.not rfl) rfl ?_
       refine WD.y 2 rfl (by kernel_rfl) (fun _ _ _ => Y.move rfl) rfl ?_
       refine WD.join (σ := Unit) (f' := 10) [6, 5, 4, 3, 2, 1, 0] (fun _ O' w' => O492 = O' ∧ wd512 = w') (fun _ => [(0, v0), (4, Value.pointer (some ⟨p14, 0, none⟩)), (5, Value.pointer (some ⟨p24, 0, none⟩)), (7, Value.pointer (some ⟨p57, 0, none⟩)), (119, Value.bool ((!same44) && (decide (0 < (a0.length : Int)))))]) (fun hJ523 => ?_) ?_
       ·refine WD.part 115 rfl (fun hE524 => ?_) (fun hE524 => ?_)
        ·refine WD.gT 3 rfl (by kernel_rfl) rfl rfl (fun _ _ _ => Y.move rfl) rfl ?_
         refine WD.gT 4 rfl (by kernel_rfl) rfl rfl (fun wd529 O528 hst530 => have hf531 := hf11.mono (imm_st hst17 rfl rfl); have hf532 := hf531.mono (imm_st hst27 rfl rfl); have hf533 := hf532.mono (imm_st hst41 rfl rfl); have hf534 := hf533.mono (imm_st hst60 rfl rfl); have hf535 := hf534.mono (imm_st hst62 rfl rfl); have hf536 := hf535.mono (imm_st hst86 rfl rfl); have hf537 := hf536.mono (imm_st hst267 rfl rfl); have hf538 := hf537.mono (imm_st hst454 rfl rfl); have hf539 := hf538.mono (imm_st hst461 rfl rfl); have hf540 := hf539.mono (imm_st hst470 rfl rfl); have hf541 := hf540.mono (imm_st hst482 rfl rfl); have hf542 := hf541.mono (imm_st hst495 rfl rfl); have hf543 := hf542.mono (imm_st hst513 rfl rfl); have hf544 := hf543.mono (imm_st hst530 rfl rfl); Y.len ty45 rfl hf544) rfl ?_
         refine WD.gT 5 rfl (by kernel_rfl) rfl rfl (fun _ _ _ => Y.gtr_i rfl rfl) rfl ?_
         refine WD.y 6 rfl (by kernel_rfl) (fun _ _ _ => Y.pick (b := true) rfl rfl) rfl ?_
         refine WD.ren (v' := Value.bool ((!same44) && (decide (0 < (a0.length : Int))))) 119 rfl (congrArg Value.bool (andT hE524)) ?_
         exact hJ523 () _ _ _ ⟨rfl, rfl⟩ (.cons rfl (.cons rfl (.cons rfl (.cons rfl (.cons rfl .nil)))))
        ·refine WD.gS 3 rfl (by kernel_rfl) rfl rfl rfl rfl ?_
         refine WD.gS 4 rfl (by kernel_rfl) rfl rfl rfl rfl ?_
         refine WD.gS 5 rfl (by kernel_rfl) rfl rfl rfl rfl ?_
         refine WD.y 6 rfl (by kernel_rfl) (fun _ _ _ => Y.pick (b := false) rfl rfl) rfl ?_
         refine WD.ren (v' := Value.bool ((!same44) && (decide (0 < (a0.length : Int))))) 119 rfl (congrArg Value.bool (andF hE524)) ?_
         exact hJ523 () _ _ _ ⟨rfl, rfl⟩ (.cons rfl (.cons rfl (.cons rfl (.cons rfl (.cons rfl .nil)))))
       ·rintro _ _ _ ⟨rfl, rfl⟩
        refine (show WD _ _ _ _ _ _ _ _ [(0, v0), (4, Value.pointer (some ⟨p14, 0, none⟩)), (5, Value.pointer (some ⟨p24, 0, none⟩)), (7, Value.pointer (some ⟨p57, 0, none⟩)), (119, Value.bool ((!same44) && (decide (0 < (a0.length : Int)))))] _ _ from ?_)
        refine WD.y 7 rfl (by kernel_rfl) (fun _ _ _ => Y.move rfl) rfl ?_
        obtain ⟨p561, h, hk562⟩ := bnd h
        refine WD.join (σ := (Bool × Own)) (f' := 0) [16, 15, 14, 13, 12, 11, 10, 9, 8, 7, 6, 5, 4, 3, 2, 1, 0] (fun x O' w' => x.1 = p561 ∧ Stp [] O492 wd512 x.2 w' ∧ x.2 = O') (fun x => [(4, Value.pointer (some ⟨p14, 0, none⟩)), (5, Value.pointer (some ⟨p24, 0, none⟩)), (7, Value.pointer (some ⟨p57, 0, none⟩)), (129, Value.bool x.1)]) (fun hJ563 => ?_) ?_
        ·rcases cnd h with ⟨hE564, h⟩ | ⟨hE564, h⟩
         ·refine WD.ren 120 rfl (congrArg Value.bool hE564) ?_
          refine WD.gT 8 rfl (by kernel_rfl) rfl rfl (fun _ _ _ => Y.move rfl) rfl ?_
          refine WD.gT 9 rfl (by kernel_rfl) rfl rfl (fun _ _ _ => Y.move rfl) rfl ?_
          refine WD.gT 10 rfl (by kernel_rfl) rfl rfl (fun wd572 O571 hst573 => have hf574 := hf11.mono (imm_st hst17 rfl rfl); have hf575 := hf574.mono (imm_st hst27 rfl rfl); have hf576 := hf575.mono (imm_st hst41 rfl rfl); have hf577 := hf576.mono (imm_st hst60 rfl rfl); have hf578 := hf577.mono (imm_st hst62 rfl rfl); have hf579 := hf578.mono (imm_st hst86 rfl rfl); have hf580 := hf579.mono (imm_st hst267 rfl rfl); have hf581 := hf580.mono (imm_st hst454 rfl rfl); have hf582 := hf581.mono (imm_st hst461 rfl rfl); have hf583 := hf582.mono (imm_st hst470 rfl rfl); have hf584 := hf583.mono (imm_st hst482 rfl rfl); have hf585 := hf584.mono (imm_st hst495 rfl rfl); have hf586 := hf585.mono (imm_st hst513 rfl rfl); have hf587 := hf586.mono (imm_st hst573 rfl rfl); Y.len ty45 rfl hf587) rfl ?_
          refine WD.gT 11 rfl (by kernel_rfl) rfl rfl (fun _ _ _ => Y.sub_i rfl rfl) rfl ?_
          obtain ⟨e591, he591, h⟩ := bnd h
          have hf600 := hf11.mono (imm_st hst17 rfl rfl)
          have hf601 := hf600.mono (imm_st hst27 rfl rfl)
          have hf602 := hf601.mono (imm_st hst41 rfl rfl)
          have hf603 := hf602.mono (imm_st hst60 rfl rfl)
          have hf604 := hf603.mono (imm_st hst62 rfl rfl)
          have hf605 := hf604.mono (imm_st hst86 rfl rfl)
          have hf606 := hf605.mono (imm_st hst267 rfl rfl)
          have hf607 := hf606.mono (imm_st hst454 rfl rfl)
          have hf608 := hf607.mono (imm_st hst461 rfl rfl)
          have hf609 := hf608.mono (imm_st hst470 rfl rfl)
          have hf610 := hf609.mono (imm_st hst482 rfl rfl)
          have hf611 := hf610.mono (imm_st hst495 rfl rfl)
          have hf612 := hf611.mono (imm_st hst513 rfl rfl)
          obtain ⟨b592, off617, cap599, cs598, hv593, hi594, hl595, hc596, hok597, hA618⟩ := Sl.at2 hf612 he591
          obtain ⟨_, _, rfl, rfl, ⟨_, _, rfl, rfl, ⟨_, _, rfl, ⟨_, _, rfl, rfl, ⟨v613, rfl, hf614⟩⟩, ⟨_, _, rfl, rfl, ⟨v615, rfl, hf616⟩⟩⟩⟩⟩ := hok597
          replace hc596 : CellsAt _ _ _ [vi e591.Scale, vu e591.Zero, vi e591.Pos.Offset, v613, vi e591.Neg.Offset, v615] := hc596
          have hca619 := CAt.imm hc596 hA618
          refine WD.gT 12 rfl (by kernel_rfl) rfl rfl (fun _ _ _ => Y.indexAddr ty45 ty27 rfl hv593 rfl hi594 hl595) rfl ?_
          refine WD.gT 13 rfl (by kernel_rfl) rfl rfl (fun wd624 O623 hst625 => have hf626 := hca619.st hst625 rfl; Y.loadAg ty27 rfl rfl hf626.at_ rfl) rfl ?_
          refine WD.gT 14 rfl (by kernel_rfl) rfl rfl (fun wd628 O627 hst629 => have hf630 := hb483.st hst495 rfl; have hf631 := hf630.st hst513 rfl; have hf632 := hf631.st hst629 rfl; Y.loadAg ty27 rfl rfl (hf632.cells 0 [vi c71, vu e443, vi c73, (Value.slice p464 m465 c466), vi c77, (Value.slice p477 m478 c479)] rfl) rfl) rfl ?_
          refine WD.heavy 15 rfl (by kernel_rfl) ?_
          refine WL.ung rfl rfl ?_
          have hf633 := hf485.mono (frs_st hst495 rfl)
          have hf634 := hf633.mono (frs_st hst513 rfl)
          have hf635 := hf486.mono (frs_st hst495 rfl)
          have hf636 := hf635.mono (frs_st hst513 rfl)
          obtain ⟨r637, hp638, h⟩ := bnd h
          refine WL.call (vals := [Value.agg (List.toArray [vi e591.Scale, vu e591.Zero, vi e591.Pos.Offset, v613, vi e591.Neg.Offset, v615]), Value.agg (List.toArray [vi c71, vu e443, vi c73, (Value.slice p464 m465 c466), vi c77, (Value.slice p477 m478 c479)])]) kok81 rfl rfl (c_ref10_Alike (A := fun _ => True) (a0 := e591) (a1 := (api_Hist.mk c71 e443 (api_Side.mk c73 t456) (api_Side.mk c77 t472))) (Sl.all hf614) (Sl.all hf616) (Sl.all hf634) (Sl.all hf636) hp638) ?_
          rintro vr641 wd640 ⟨rfl, hm639⟩
          obtain ⟨O642, hold643, hnew644, hst645⟩ := adoptE O492 (fun k => 1) hm639
          refine WL.nil ?_
          refine At.dq (Stp.up hst645 rfl) ?_
          refine WD.y 16 rfl (by kernel_rfl) (fun _ _ _ => Y.pick (b := true) rfl rfl) rfl ?_
          refine WD.ren 120 rfl (congrArg Value.bool hE564.symm) ?_
          exact hJ563 (r637, O642) _ _ _ ⟨some1 h, (Stp.up hst645 rfl), rfl⟩ (.cons rfl (.cons rfl (.cons rfl (.cons rfl .nil))))
         ·refine WD.ren 120 rfl (congrArg Value.bool hE564) ?_
          refine WD.gS 8 rfl (by kernel_rfl) rfl rfl rfl rfl ?_
          refine WD.gS 9 rfl (by kernel_rfl) rfl rfl rfl rfl ?_
          refine WD.gS 10 rfl (by kernel_rfl) rfl rfl rfl rfl ?_
          refine WD.gS 11 rfl (by kernel_rfl) rfl rfl rfl rfl ?_
          refine WD.gS 12 rfl (by kernel_rfl) rfl rfl rfl rfl ?_
          refine WD.gS 13 rfl (by kernel_rfl) rfl rfl rfl rfl ?_
          refine WD.gS 14 rfl (by kernel_rfl) rfl rfl rfl rfl ?_
          refine WD.heavy 15 rfl (by kernel_rfl) ?_
          refine WL.gS rfl rfl rfl rfl ?_
          refine WL.nil ?_
          refine At.dq (Stp.refl _ _ _) ?_
          refine WD.y 16 rfl (by kernel_rfl) (fun _ _ _ => Y.pick (b := false) rfl rfl) rfl ?_
          refine WD.ren 120 rfl (congrArg Value.bool hE564.symm) ?_
          exact hJ563 (false, O492) _ _ _ ⟨some1 h, (Stp.refl _ _ _), rfl⟩ (.cons rfl (.cons rfl (.cons rfl (.cons rfl .nil))))
        ·rintro ⟨x557, O558⟩ _ wd559 ⟨rfl, hst560, rfl⟩
         replace h := hk562
         try dsimp only at h hst560
         refine (show WD _ _ _ _ _ _ _ _ [(4, Value.pointer (some ⟨p14, 0, none⟩)), (5, Value.pointer (some ⟨p24, 0, none⟩)), (7, Value.pointer (some ⟨p57, 0, none⟩)), (129, Value.bool x557)] _ _ from ?_)
         refine WD.done_ (by kernel_rfl) ?_
         refine At.then ?_
         rcases cnd h with ⟨hc652, h⟩ | ⟨hc652, h⟩
         ·refine WC.condT' rfl hc652 ?_
          refine WC.seq ?_
          refine WC.region ?_
          refine WL.y (Y.build (vals := [(2, vi 3)]) (cells := [vi 0, vu 0, vi 0, Value.slice none 0 0, vi 0, Value.slice none 0 0, vi 0, vi 3]) (Fits.evalp rfl) (by kernel_rfl)) rfl ?_
          have hf653 := hb13.st hst27 rfl
          have hf654 := hf653.st hst41 rfl
          have hf655 := hf654.st hst60 rfl
          have hf656 := hf655.st hst62 rfl
          have hf657 := hf656.st hst86 rfl
          have hf658 := hf657.st hst267 rfl
          have hf659 := hf658.st hst454 rfl
          have hf660 := hf659.st hst461 rfl
          have hf661 := hf660.st hst470 rfl
          have hf662 := hf661.st hst482 rfl
          have hf663 := hf662.st hst495 rfl
          have hf664 := hf663.st hst513 rfl
          have hf665 := hf664.st hst560 rfl
          refine WL.store (v := Value.agg (List.toArray [vi 0, vu 0, vi 0, Value.slice none 0 0, vi 0, Value.slice none 0 0, vi 0, vi 3])) (cells' := [vi 0, vu 0, vi 0, Value.slice none 0 0, vi 0, Value.slice none 0 0, vi 0, vi 3]) ty67 rfl rfl hf665 rfl (Nat.le_of_ble_eq_true rfl) rfl rfl ?_
          intro wd666 hst667 hb668
          refine WL.nil ?_
          refine At.then ?_
          refine WC.ret ?_
          refine At.thenR ?_
          obtain rfl := some1 h
          have hs669 : Stp [11, 12, 13, 14, 15, 16, 18, 1004, 1006, 1010, 1019] (Lg.O0 A) w O558 wd666 := (Stp.trans (Stp.up hst17 rfl) (Stp.trans (Stp.up hst27 rfl) (Stp.trans (Stp.up hst41 rfl) (Stp.trans (Stp.up hst60 rfl) (Stp.trans (Stp.up hst62 rfl) (Stp.trans (Stp.up hst86 rfl) (Stp.trans (Stp.up hst267 rfl) (Stp.trans (Stp.up hst454 rfl) (Stp.trans (Stp.up hst461 rfl) (Stp.trans (Stp.up hst470 rfl) (Stp.trans (Stp.up hst482 rfl) (Stp.trans (Stp.up hst495 rfl) (Stp.trans (Stp.up hst513 rfl) (Stp.trans (Stp.up hst560 rfl) (Stp.up hst667 rfl)))))))))))))))
          exact At.res (.inl rfl) rfl (.cell rfl (hb668.runAg 0 [vi 0, vu 0, vi 0, Value.slice none 0 0, vi 0, Value.slice none 0 0, vi 0, vi 3] ty67 rfl rfl rfl) .nil) ⟨Value.slice none 0 0, Value.slice none 0 0, rfl, (Stp.ext hs669 rfl rfl), (Or.inl ⟨rfl, rfl⟩), (Or.inl ⟨rfl, rfl⟩)⟩
         ·refine WC.condF' rfl hc652 ?_
          refine WC.skip ?_
          refine At.then ?_
          refine WC.seq ?_
          refine WC.draw 6 O558 fmix (by kernel_rfl) ?_
          intro wd670 hst671
          have hf672 := hb483.st hst495 rfl
          have hf673 := hf672.st hst513 rfl
          have hf674 := hf673.st hst560 rfl
          have hf675 := hf674.st hst671 rfl
          refine WS.y (Y.loadAg ty27 rfl rfl (hf675.cells 0 [vi c71, vu e443, vi c73, (Value.slice p464 m465 c466), vi c77, (Value.slice p477 m478 c479)] rfl) rfl) rfl ?_
          refine WS.y (Y.move rfl) rfl ?_
          refine WS.y (Y.nilCheck rfl) rfl ?_
          refine WS.y (Y.fieldAddr fo110_1 rfl) rfl ?_
          have hf676 := hb256.st hst454 rfl
          have hf677 := hf676.st hst461 rfl
          have hf678 := hf677.st hst470 rfl
          have hf679 := hf678.st hst482 rfl
          have hf680 := hf679.st hst495 rfl
          have hf681 := hf680.st hst513 rfl
          have hf682 := hf681.st hst560 rfl
          have hf683 := hf682.st hst671 rfl
          refine WS.y (Y.loadSc ty3 rfl rfl (hf683.cell 1 _ rfl)) rfl ?_
          refine WS.y (Y.build (vals := [(0, Value.agg (List.toArray [vi c71, vu e443, vi c73, (Value.slice p464 m465 c466), vi c77, (Value.slice p477 m478 c479)])), (1, vi c260)]) (cells := [vi c71, vu e443, vi c73, (Value.slice p464 m465 c466), vi c77, (Value.slice p477 m478 c479), vi c260, vi 0]) (Fits.evalp rfl) (by kernel_rfl)) rfl ?_
          refine WS.tail ?_
          have hf684 := hb13.st hst27 rfl
          have hf685 := hf684.st hst41 rfl
          have hf686 := hf685.st hst60 rfl
          have hf687 := hf686.st hst62 rfl
          have hf688 := hf687.st hst86 rfl
          have hf689 := hf688.st hst267 rfl
          have hf690 := hf689.st hst454 rfl
          have hf691 := hf690.st hst461 rfl
          have hf692 := hf691.st hst470 rfl
          have hf693 := hf692.st hst482 rfl
          have hf694 := hf693.st hst495 rfl
          have hf695 := hf694.st hst513 rfl
          have hf696 := hf695.st hst560 rfl
          have hf697 := hf696.st hst671 rfl
          refine WL.store (v := Value.agg (List.toArray [vi c71, vu e443, vi c73, (Value.slice p464 m465 c466), vi c77, (Value.slice p477 m478 c479), vi c260, vi 0])) (cells' := [vi c71, vu e443, vi c73, (Value.slice p464 m465 c466), vi c77, (Value.slice p477 m478 c479), vi c260, vi 0]) ty67 rfl rfl hf697 rfl (Nat.le_of_ble_eq_true rfl) rfl rfl ?_
          intro wd698 hst699 hb700
          refine WL.nil ?_
          refine At.then ?_
          refine WC.ret ?_
          obtain rfl := some1 h
          have hs701 : Stp [11, 12, 13, 14, 15, 16, 18, 1004, 1006, 1010, 1019] (Lg.O0 A) w O558 wd698 := (Stp.trans (Stp.up hst17 rfl) (Stp.trans (Stp.up hst27 rfl) (Stp.trans (Stp.up hst41 rfl) (Stp.trans (Stp.up hst60 rfl) (Stp.trans (Stp.up hst62 rfl) (Stp.trans (Stp.up hst86 rfl) (Stp.trans (Stp.up hst267 rfl) (Stp.trans (Stp.up hst454 rfl) (Stp.trans (Stp.up hst461 rfl) (Stp.trans (Stp.up hst470 rfl) (Stp.trans (Stp.up hst482 rfl) (Stp.trans (Stp.up hst495 rfl) (Stp.trans (Stp.up hst513 rfl) (Stp.trans (Stp.up hst560 rfl) (Stp.trans (Stp.up hst671 rfl) (Stp.up hst699 rfl))))))))))))))))
          have hf702 := hf485.mono (frs_st hst495 rfl)
          have hf703 := hf702.mono (frs_st hst513 rfl)
          have hf704 := hf703.mono (frs_st hst560 rfl)
          have hf705 := hf704.mono (frs_st hst671 rfl)
          have hf706 := hf705.mono (frs_st hst699 rfl)
          have hf707 := hf486.mono (frs_st hst495 rfl)
          have hf708 := hf707.mono (frs_st hst513 rfl)
          have hf709 := hf708.mono (frs_st hst560 rfl)
          have hf710 := hf709.mono (frs_st hst671 rfl)
          have hf711 := hf710.mono (frs_st hst699 rfl)
          exact At.res (.inl rfl) rfl (.cell rfl (hb700.runAg 0 [vi c71, vu e443, vi c73, (Value.slice p464 m465 c466), vi c77, (Value.slice p477 m478 c479), vi c260, vi 0] ty67 rfl rfl rfl) .nil) ⟨(Value.slice p464 m465 c466), (Value.slice p477 m478 c479), rfl, (Stp.ext hs701 rfl rfl), (Sl.outF hf706 hs701 low0), (Sl.outF hf711 hs701 low0)⟩
theorem c_bitio_Reader_At {A : Nat → Prop} {v0_0 : Value} {a0 : bitio_Reader} {b0 : Nat} {w : World} (hs0_0 : Sl Rep.b w A v0_0 a0.b) (hb0 : w.heap[b0]? = some (.cells (List.toArray [v0_0, vi a0.n, vi a0.at_]) 107 (0, 0))) (hm0 : A b0) {r0 : Int} (h : bitio_Reader_At a0 = some r0) : Rets Try.prog 51 [Value.pointer (some ⟨b0, 0, none⟩)] w (fun v w' => v = vi r0 ∧ Ext w w') := by
 unfold bitio_Reader_At at h
 refine Rets.enter Try.func51 rfl rfl ?_
 have hf11 : Sl Rep.b w (imm (Lg.O0 A)) v0_0 a0.b := (Sl.start hs0_0)
 have hb12 : Blk 0 (Lg.O0 A) w b0 107 [v0_0, vi a0.n, vi a0.at_] := ⟨(if_pos hm0), hb0⟩
 refine (show WC _ _ _ _ [(0, Value.pointer (some ⟨b0, 0, none⟩))] _ from ?_)
 refine WC.seq ?_
 refine WC.region ?_
 refine WL.y (Y.assign rfl) rfl ?_
 refine WL.nil ?_
 refine At.then ?_
 refine WC.seq ?_
 refine WC.region ?_
 refine WL.y (Y.move rfl) rfl ?_
 refine WL.y (Y.nilCheck rfl) rfl ?_
 refine WL.y (Y.fieldAddr fo107_2 rfl) rfl ?_
 refine WL.y (Y.loadSc ty3 rfl rfl (hb12.cell 2 _ rfl)) rfl ?_
 refine WL.y (Y.assign rfl) rfl ?_
 refine WL.nil ?_
 refine At.then ?_
 refine WC.ret ?_
 obtain rfl := some1 h
 have hs13 : Stp [] (Lg.O0 A) w (Lg.O0 A) w := (Stp.refl _ _ _)
 exact At.res (.inl rfl) rfl (.tmp rfl .nil) ⟨rfl, (Stp.ext hs13 rfl rfl)⟩
theorem c_bitio_Reader_Left {A : Nat → Prop} {v0_0 : Value} {a0 : bitio_Reader} {b0 : Nat} {w : World} (hs0_0 : Sl Rep.b w A v0_0 a0.b) (hb0 : w.heap[b0]? = some (.cells (List.toArray [v0_0, vi a0.n, vi a0.at_]) 107 (0, 0))) (hm0 : A b0) {r0 : Int} (h : bitio_Reader_Left a0 = some r0) : Rets Try.prog 56 [Value.pointer (some ⟨b0, 0, none⟩)] w (fun v w' => v = vi r0 ∧ Ext w w') := by
 unfold bitio_Reader_Left at h
 refine Rets.enter Try.func56 rfl rfl ?_
 have hf11 : Sl Rep.b w (imm (Lg.O0 A)) v0_0 a0.b := (Sl.start hs0_0)
 have hb12 : Blk 0 (Lg.O0 A) w b0 107 [v0_0, vi a0.n, vi a0.at_] := ⟨(if_pos hm0), hb0⟩
 refine (show WC _ _ _ _ [(0, Value.pointer (some ⟨b0, 0, none⟩))] _ from ?_)
 refine WC.seq ?_
 refine WC.region ?_
 refine WL.y (Y.assign rfl) rfl ?_
 refine WL.nil ?_
 refine At.then ?_
 refine WC.seq ?_
 refine WC.draw 9 (Lg.O0 A) fmix (by kernel_rfl) ?_
 intro wd13 hst14
 refine WS.y (Y.move rfl) rfl ?_
 refine WS.y (Y.nilCheck rfl) rfl ?_
 refine WS.y (Y.fieldAddr fo107_1 rfl) rfl ?_
 have hf15 := hb12.st hst14 rfl
 refine WS.y (Y.loadSc ty3 rfl rfl (hf15.cell 1 _ rfl)) rfl ?_
 refine WS.y (Y.move rfl) rfl ?_
 refine WS.y (Y.nilCheck rfl) rfl ?_
 refine WS.y (Y.fieldAddr fo107_2 rfl) rfl ?_
 refine WS.y (Y.loadSc ty3 rfl rfl (hf15.cell 2 _ rfl)) rfl ?_
 refine WS.y (Y.sub_i rfl rfl) rfl ?_
 refine WS.tail ?_
 obtain ⟨t16, ht16, h⟩ := lt1 h
 refine WL.yE (Y.assign rfl) (congrArg vi ht16.symm) rfl ?_
 refine WL.nil ?_
 refine At.then ?_
 refine WC.ret ?_
 obtain rfl := some1 h
 have hs17 : Stp [] (Lg.O0 A) w (Lg.O0 A) wd13 := (Stp.up hst14 rfl)
 exact At.res (.inl rfl) rfl (.tmp rfl .nil) ⟨rfl, (Stp.ext hs17 rfl rfl)⟩
theorem c_bitio_Reader_Look {A : Nat → Prop} {v0_0 : Value} {a0 : bitio_Reader} {b0 : Nat} {a1 : Int} {w : World} (hs0_0 : Sl Rep.b w A v0_0 a0.b) (hb0 : w.heap[b0]? = some (.cells (List.toArray [v0_0, vi a0.n, vi a0.at_]) 107 (0, 0))) (hm0 : A b0) {r0 : UInt64} {r1 : Bool} (h : bitio_Reader_Look a0 a1 = some (r0, r1)) : Rets Try.prog 110 [Value.pointer (some ⟨b0, 0, none⟩), vi a1] w (fun v w' => v = Value.tuple (List.toArray [vu r0, Value.bool r1]) ∧ Ext w w') := by
 unfold bitio_Reader_Look at h
 refine Rets.enter Try.func110 rfl rfl ?_
 have hf11 : Sl Rep.b w (imm (Lg.O0 A)) v0_0 a0.b := (Sl.start hs0_0)
 have hb12 : Blk 0 (Lg.O0 A) w b0 107 [v0_0, vi a0.n, vi a0.at_] := ⟨(if_pos hm0), hb0⟩
 refine (show WC _ _ _ _ [(0, Value.pointer (some ⟨b0, 0, none⟩)), (1, vi a1)] _ from ?_)
 refine WC.seq ?_
 refine WC.region ?_
 refine WL.y (Y.assign (v := vu 0) rfl) rfl ?_
 refine WL.y (Y.assign rfl) rfl ?_
 refine WL.nil ?_
 refine At.then ?_
 refine WC.seq ?_
 refine WC.seq ?_
 refine WC.region ?_
 refine WL.y (Y.move rfl) rfl ?_
 refine WL.y (Y.lss_i rfl rfl) rfl ?_
 refine WL.y (Y.move rfl) rfl ?_
 refine WL.cut 3 (σ := Unit) (fun _ w' => w = w') (fun _ => [(0, Value.pointer (some ⟨b0, 0, none⟩)), (1, vi a1), (16, Value.bool ((decide (a1 < 0)) || (decide (64 < a1))))]) ?_ ?_
 ·refine WL.part 13 rfl (fun hE13 => ?_) (fun hE13 => ?_)
  ·refine WL.gS rfl rfl rfl rfl ?_
   refine WL.gS rfl rfl rfl rfl ?_
   refine WL.y (Y.pick (b := true) rfl rfl) rfl ?_
   refine WL.ren (v' := Value.bool ((decide (a1 < 0)) || (decide (64 < a1)))) 16 rfl (congrArg Value.bool (orT hE13)) ?_
   exact WL.nil (At.join () rfl (.cons rfl (.cons rfl (.cons rfl .nil))))
  ·refine WL.ung rfl rfl ?_
   refine WL.y (Y.move rfl) rfl ?_
   refine WL.ung rfl rfl ?_
   refine WL.y (Y.gtr_i rfl rfl) rfl ?_
   refine WL.y (Y.pick (b := false) rfl rfl) rfl ?_
   refine WL.ren (v' := Value.bool ((decide (a1 < 0)) || (decide (64 < a1)))) 16 rfl (congrArg Value.bool (orF hE13)) ?_
   exact WL.nil (At.join () rfl (.cons rfl (.cons rfl (.cons rfl .nil))))
 ·rintro _ _ rfl
  refine (show WL _ _ _ _ _ [(0, Value.pointer (some ⟨b0, 0, none⟩)), (1, vi a1), (16, Value.bool ((decide (a1 < 0)) || (decide (64 < a1))))] _ from ?_)
  refine WL.y (Y.move rfl) rfl ?_
  obtain ⟨p18, h, hk19⟩ := bnd h
  refine WL.cut 5 (σ := (Bool × Own)) (fun x w' => x.1 = p18 ∧ Stp [] (Lg.O0 A) w x.2 w') (fun x => [(0, Value.pointer (some ⟨b0, 0, none⟩)), (1, vi a1), (22, Value.bool x.1)]) ?_ ?_
  ·rcases cnd h with ⟨hE20, h⟩ | ⟨hE20, h⟩
   ·refine WL.ren 17 rfl (congrArg Value.bool hE20) ?_
    refine WL.gS rfl rfl rfl rfl ?_
    refine WL.gS rfl rfl rfl rfl ?_
    refine WL.gS rfl rfl rfl rfl ?_
    refine WL.gS rfl rfl rfl rfl ?_
    refine WL.y (Y.pick (b := true) rfl rfl) rfl ?_
    exact WL.nil (At.join (σ := (Bool × Own)) (true, (Lg.O0 A)) ⟨some1 h, (Stp.refl _ _ _)⟩ (.cons rfl (.cons rfl (.cons rfl .nil))))
   ·refine WL.ren 17 rfl (congrArg Value.bool hE20) ?_
    refine WL.ung rfl rfl ?_
    refine WL.y (Y.move rfl) rfl ?_
    refine WL.ung rfl rfl ?_
    refine WL.y (Y.move rfl) rfl ?_
    refine WL.ung rfl rfl ?_
    obtain ⟨r21, hp22, h⟩ := bnd h
    refine WL.call (vals := [Value.pointer (some ⟨b0, 0, none⟩)]) kok56 rfl rfl (c_bitio_Reader_Left (A := fun _ => True) (a0 := a0) (Sl.all hf11) hb12.blk trivial hp22) ?_
    rintro vr25 wd24 ⟨rfl, hm23⟩
    obtain ⟨O26, hold27, hnew28, hst29⟩ := adoptE (Lg.O0 A) (fun k => 1) hm23
    refine WL.ung rfl rfl ?_
    refine WL.y (Y.gtr_i rfl rfl) rfl ?_
    refine WL.y (Y.pick (b := false) rfl rfl) rfl ?_
    exact WL.nil (At.join (σ := (Bool × Own)) (decide (r21 < a1), O26) ⟨some1 h, (Stp.up hst29 rfl)⟩ (.cons rfl (.cons rfl (.cons rfl .nil))))
  ·rintro ⟨x14, O15⟩ wd16 ⟨rfl, hst17⟩
   replace h := hk19
   try dsimp only at h hst17
   refine (show WL _ _ _ _ _ [(0, Value.pointer (some ⟨b0, 0, none⟩)), (1, vi a1), (22, Value.bool x14)] _ from ?_)
   refine WL.nil ?_
   refine At.then ?_
   rcases cnd h with ⟨hc30, h⟩ | ⟨hc30, h⟩
   ·refine WC.condT' rfl hc30 ?_
    refine WC.seq ?_
    refine WC.region ?_
    refine WL.y (Y.assign (v := vu 0) rfl) rfl ?_
    refine WL.y (Y.assign rfl) rfl ?_
    refine WL.nil ?_
    refine At.then ?_
    refine WC.ret ?_
    refine At.thenR ?_
    obtain ⟨rfl, rfl⟩ := tup2 h
    have hs31 : Stp [] (Lg.O0 A) w O15 wd16 := (Stp.up hst17 rfl)
    exact At.res (.inl rfl) rfl (.tmp rfl (.tmp rfl .nil)) ⟨rfl, (Stp.ext hs31 rfl rfl)⟩
   ·refine WC.condF' rfl hc30 ?_
    refine WC.skip ?_
    refine At.then ?_
    refine WC.seq ?_
    refine WC.region ?_
    refine WL.y (Y.assign (v := vu 0) rfl) rfl ?_
    refine WL.nil ?_
    refine At.then ?_
    refine WC.seq ?_
    refine WC.seq ?_
    refine WC.region ?_
    refine WL.y (Y.move rfl) rfl ?_
    refine WL.y (Y.nilCheck rfl) rfl ?_
    refine WL.y (Y.fieldAddr fo107_2 rfl) rfl ?_
    have hf32 := hb12.st hst17 rfl
    refine WL.y (Y.loadSc ty3 rfl rfl (hf32.cell 2 _ rfl)) rfl ?_
    refine WL.y (Y.assign rfl) rfl ?_
    refine WL.nil ?_
    refine At.then ?_
    refine WC.block ?_
    obtain ⟨p37, h, hk39⟩ := flow1 h
    obtain ⟨k38, h⟩ := loop_some h
    refine WC.joinB 0 (σ := UInt64) (fun x w' => p37 = .go x ∧ wd16 = w') (fun x => [(6, vu x)]) ?_ ?_
    ·refine WC.loop (σ := (Int × UInt64 × Int)) (fun x k w' => loopN k (bitio_Reader_Look_lp1 a0) (x.1, x.2.1, x.2.2) = some p37 ∧ wd16 = w') (fun x => [(0, Value.pointer (some ⟨b0, 0, none⟩)), (1, vi x.1), (6, vu x.2.1), (7, vi x.2.2)]) (a1, 0, a0.at_) k38 (.cons rfl (.cons rfl (.cons rfl (.cons rfl .nil)))) ⟨h, rfl⟩ ?_
     rintro ⟨nv33, v34, at35⟩ k38 _ ⟨h, rfl⟩
     obtain ⟨j40, q41, rfl, h, hn42⟩ := rnd1 h
     unfold bitio_Reader_Look_lp1 at h
     try dsimp only at h
     refine (show WC _ _ _ _ [(0, Value.pointer (some ⟨b0, 0, none⟩)), (1, vi nv33), (6, vu v34), (7, vi at35)] _ from ?_)
     refine WC.seq ?_
     refine WC.seq ?_
     refine WC.region ?_
     refine WL.y (Y.move rfl) rfl ?_
     refine WL.y (Y.gtr_i rfl rfl) rfl ?_
     refine WL.nil ?_
     refine At.then ?_
     rcases cnd h with ⟨hc43, h⟩ | ⟨hc43, h⟩
     ·refine WC.condT' rfl hc43 ?_
      refine WC.skip ?_
      refine At.then ?_
      refine WC.block ?_
      refine WC.seq ?_
      refine WC.region ?_
      refine WL.y (Y.move rfl) rfl ?_
      refine WL.y (Y.rem_i (by decide) rfl rfl) rfl ?_
      refine WL.y (Y.sub_i rfl rfl) rfl ?_
      obtain ⟨free44, hfree44, h⟩ := lt1 h
      refine WL.yE (Y.assign rfl) (congrArg vi hfree44.symm) rfl ?_
      refine WL.nil ?_
      refine At.then ?_
      refine WC.seq ?_
      refine WC.region ?_
      refine WL.y (Y.move rfl) rfl ?_
      refine WL.y (Y.move rfl) rfl ?_
      refine WL.y (Y.min_i rfl rfl) rfl ?_
      obtain ⟨k45, hk45, h⟩ := lt1 h
      refine WL.yE (Y.assign rfl) (congrArg vi hk45.symm) rfl ?_
      refine WL.nil ?_
      refine At.then ?_
      refine WC.seq ?_
      refine WC.region ?_
      refine WL.y (Y.move rfl) rfl ?_
      refine WL.y (Y.nilCheck rfl) rfl ?_
      refine WL.y (Y.fieldAddr fo107_0 rfl) rfl ?_
      refine WL.y (Y.loadSc ty60 rfl rfl (hf32.cell 0 _ rfl)) rfl ?_
      refine WL.y (Y.move rfl) rfl ?_
      refine WL.y (Y.quo_i (by decide) rfl rfl) rfl ?_
      obtain ⟨e46, he46, h⟩ := bnd h
      have hf55 := hf11.mono (imm_st hst17 rfl rfl)
      obtain ⟨b47, off56, cap54, cs53, hv48, hi49, hl50, hc51, hok52, hA57⟩ := Sl.at2 hf55 he46
      obtain rfl := hok52
      replace hc51 : CellsAt _ _ _ [vb e46] := hc51
      have hca58 := CAt.imm hc51 hA57
      refine WL.y (Y.indexAddr ty60 ty5 rfl hv48 rfl hi49 hl50) rfl ?_
      refine WL.y (Y.loadSc ty5 rfl rfl hca58.at_) rfl ?_
      refine WL.y (Y.move rfl) rfl ?_
      refine WL.y (Y.move rfl) rfl ?_
      refine WL.y (Y.sub_i rfl rfl) rfl ?_
      refine WL.y (Y.conv_iu ty3.u ty82.u rfl) rfl ?_
      refine WL.y (Y.shr_bu rfl rfl) rfl ?_
      refine WL.y (Y.move rfl) rfl ?_
      refine WL.y (Y.conv_iu ty3.u ty82.u rfl) rfl ?_
      refine WL.y (Y.shl_bu (a := 1) rfl rfl) rfl ?_
      refine WL.y (Y.sub_b (b := 1) rfl rfl) rfl ?_
      refine WL.y (Y.and_b rfl rfl) rfl ?_
      obtain ⟨piece59, hpiece59, h⟩ := lt1 h
      refine WL.yE (Y.assign rfl) (congrArg vb hpiece59.symm) rfl ?_
      refine WL.nil ?_
      refine At.then ?_
      refine WC.seq ?_
      refine WC.region ?_
      refine WL.y (Y.move rfl) rfl ?_
      refine WL.y (Y.move rfl) rfl ?_
      refine WL.y (Y.conv_iu ty3.u ty82.u rfl) rfl ?_
      refine WL.y (Y.shl_uu rfl rfl) rfl ?_
      refine WL.y (Y.move rfl) rfl ?_
      refine WL.y (Y.conv_bu ty5.u ty22.u rfl) rfl ?_
      refine WL.y (Y.or_u rfl rfl) rfl ?_
      obtain ⟨v60, hv60, h⟩ := lt1 h
      refine WL.yE (Y.assign rfl) (congrArg vu hv60.symm) rfl ?_
      refine WL.nil ?_
      refine At.then ?_
      refine WC.seq ?_
      refine WC.region ?_
      refine WL.y (Y.move rfl) rfl ?_
      refine WL.y (Y.move rfl) rfl ?_
      refine WL.y (Y.add_i rfl rfl) rfl ?_
      obtain ⟨at61, hat61, h⟩ := lt1 h
      refine WL.yE (Y.assign rfl) (congrArg vi hat61.symm) rfl ?_
      refine WL.nil ?_
      refine At.then ?_
      refine WC.region ?_
      refine WL.y (Y.move rfl) rfl ?_
      refine WL.y (Y.move rfl) rfl ?_
      refine WL.y (Y.sub_i rfl rfl) rfl ?_
      obtain ⟨nv62, hnv62, h⟩ := lt1 h
      refine WL.yE (Y.assign rfl) (congrArg vi hnv62.symm) rfl ?_
      refine WL.nil ?_
      refine At.inBlock ?_
      exact At.round (nv62, v60, at61) j40 (Nat.lt_succ_self _) ⟨next1 h hn42, rfl⟩ (.cons rfl (.cons rfl (.cons rfl (.cons rfl .nil))))
     ·refine WC.condF' rfl hc43 ?_
      refine WC.exit ?_
      refine At.thenX ?_
      refine At.loopX ?_
      exact At.hitB (σ := UInt64) v34 ⟨brk1 h hn42, rfl⟩ (.cons rfl .nil)
    ·rintro v36 _ ⟨rfl, rfl⟩
     replace h := flowK_go hk39
     try dsimp only at h
     refine (show At _ _ _ [(6, vu v36)] _ from ?_)
     refine At.inBlockHit ?_
     refine At.then ?_
     refine WC.seq ?_
     refine WC.region ?_
     refine WL.y (Y.move rfl) rfl ?_
     refine WL.y (Y.assign rfl) rfl ?_
     refine WL.y (Y.assign rfl) rfl ?_
     refine WL.nil ?_
     refine At.then ?_
     refine WC.ret ?_
     obtain ⟨rfl, rfl⟩ := tup2 h
     have hs63 : Stp [] (Lg.O0 A) w O15 wd16 := (Stp.up hst17 rfl)
     exact At.res (.inl rfl) rfl (.tmp rfl (.tmp rfl .nil)) ⟨rfl, (Stp.ext hs63 rfl rfl)⟩
theorem c_bitio_Reader_Take {A : Nat → Prop} {v0_0 : Value} {a0 : bitio_Reader} {b0 : Nat} {a1 : Int} {w : World} (hs0_0 : Sl Rep.b w A v0_0 a0.b) (hb0 : w.heap[b0]? = some (.cells (List.toArray [v0_0, vi a0.n, vi a0.at_]) 107 (0, 0))) (hA : ∀ k, A k → k ≠ b0) {r0 : UInt64} {r1 : Bool} {q0 : bitio_Reader} (h : bitio_Reader_Take a0 a1 = some (r0, r1, q0)) : Rets Try.prog 103 [Value.pointer (some ⟨b0, 0, none⟩), vi a1] w (fun v w' => ∃ (z0_0 : Value), v = Value.tuple (List.toArray [vu r0, Value.bool r1]) ∧ Mod (fun k => k = b0) w w' ∧ Sl Rep.b w' (fun k => A k ∨ w.heap.size ≤ k) z0_0 q0.b ∧ w'.heap[b0]? = some (.cells (List.toArray [z0_0, vi q0.n, vi q0.at_]) 107 (0, 0))) := by
 unfold bitio_Reader_Take at h
 refine Rets.enter Try.func103 rfl rfl ?_
 have hf11 : Sl Rep.b w (imm (Lg.OB b0 3 (Lg.O0 A))) v0_0 a0.b := (Sl.OB (Sl.start hs0_0) (fun k hk => (hA k (O0_A k hk))))
 have hb12 : Blk 3 (Lg.OB b0 3 (Lg.O0 A)) w b0 107 [v0_0, vi a0.n, vi a0.at_] := ⟨(if_pos rfl), hb0⟩
 refine (show WC _ _ _ _ [(0, Value.pointer (some ⟨b0, 0, none⟩)), (1, vi a1)] _ from ?_)
 refine WC.seq ?_
 refine WC.region ?_
 refine WL.y (Y.assign (v := vu 0) rfl) rfl ?_
 refine WL.y (Y.assign rfl) rfl ?_
 refine WL.nil ?_
 refine At.then ?_
 refine WC.seq ?_
 refine WC.region ?_
 refine WL.y (Y.move rfl) rfl ?_
 refine WL.y (Y.move rfl) rfl ?_
 obtain ⟨⟨r13, r14⟩, hp15, h⟩ := bnd h
 refine WL.call (vals := [Value.pointer (some ⟨b0, 0, none⟩), vi a1]) kok110 rfl rfl (c_bitio_Reader_Look (A := fun _ => True) (a0 := a0) (Sl.all hf11) hb12.blk trivial hp15) ?_
 rintro vr18 wd17 ⟨rfl, hm16⟩
 obtain ⟨O19, hold20, hnew21, hst22⟩ := adoptE (Lg.OB b0 3 (Lg.O0 A)) (fun k => 1) hm16
 refine WL.y (Y.move rfl) rfl ?_
 refine WL.y (Y.extract rfl rfl) rfl ?_
 refine WL.y (Y.extract rfl rfl) rfl ?_
 refine WL.y (Y.assign rfl) rfl ?_
 refine WL.y (Y.assign rfl) rfl ?_
 refine WL.nil ?_
 refine At.then ?_
 refine WC.seq ?_
 refine WC.seq ?_
 refine WC.region ?_
 refine WL.y (Y.move rfl) rfl ?_
 refine WL.nil ?_
 refine At.then ?_
 rcases cnd h with ⟨hc23, h⟩ | ⟨hc23, h⟩
 ·refine WC.condT' rfl hc23 ?_
  refine WC.region ?_
  refine WL.y (Y.move rfl) rfl ?_
  refine WL.y (Y.nilCheck rfl) rfl ?_
  refine WL.y (Y.fieldAddr fo107_2 rfl) rfl ?_
  have hf24 := hb12.st hst22 rfl
  refine WL.y (Y.loadSc ty3 rfl rfl (hf24.cell 2 _ rfl)) rfl ?_
  refine WL.y (Y.move rfl) rfl ?_
  refine WL.y (Y.add_i rfl rfl) rfl ?_
  refine WL.y (Y.nilCheck rfl) rfl ?_
  refine WL.y (Y.fieldAddr fo107_2 rfl) rfl ?_
  obtain ⟨t25, ht25, h⟩ := lt1 h
  refine WL.ren 20 rfl (congrArg vi ht25.symm) ?_
  refine WL.store (v := vi t25) (cells' := [v0_0, vi a0.n, vi t25]) ty3 rfl rfl hf24 rfl (Nat.le_of_ble_eq_true rfl) rfl rfl ?_
  intro wd26 hst27 hb28
  refine WL.nil ?_
  refine At.then ?_
  refine WC.seq ?_
  refine WC.region ?_
  refine WL.y (Y.move rfl) rfl ?_
  refine WL.y (Y.move rfl) rfl ?_
  refine WL.y (Y.assign rfl) rfl ?_
  refine WL.y (Y.assign rfl) rfl ?_
  refine WL.nil ?_
  refine At.then ?_
  refine WC.ret ?_
  obtain ⟨rfl, rfl, rfl⟩ := tup3 h
  have hs29 : Stp [3] (Lg.OB b0 3 (Lg.O0 A)) w O19 wd26 := (Stp.trans (Stp.up hst22 rfl) (Stp.up hst27 rfl))
  have hf30 := hf11.mono (imm_st hst22 rfl rfl)
  have hf31 := hf30.mono (imm_st hst27 rfl rfl)
  exact At.res (.inl rfl) rfl (.tmp rfl (.tmp rfl .nil)) ⟨v0_0, rfl, (Stp.modL hs29 sB1 rfl rfl), (Sl.outI hf31 hs29 (lowB low0 rfl rfl) (aB O0_A rfl)), hb28.blk⟩
 ·refine WC.condF' rfl hc23 ?_
  refine WC.skip ?_
  refine At.then ?_
  refine WC.seq ?_
  refine WC.region ?_
  refine WL.y (Y.move rfl) rfl ?_
  refine WL.y (Y.move rfl) rfl ?_
  refine WL.y (Y.assign rfl) rfl ?_
  refine WL.y (Y.assign rfl) rfl ?_
  refine WL.nil ?_
  refine At.then ?_
  refine WC.ret ?_
  obtain ⟨rfl, rfl, rfl⟩ := tup3 h
  have hs32 : Stp [] (Lg.OB b0 3 (Lg.O0 A)) w O19 wd17 := (Stp.up hst22 rfl)
  have hf33 := hb12.st hst22 rfl
  have hf34 := hf11.mono (imm_st hst22 rfl rfl)
  exact At.res (.inl rfl) rfl (.tmp rfl (.tmp rfl .nil)) ⟨v0_0, rfl, (Stp.modL hs32 sB1 rfl rfl), (Sl.outI hf34 hs32 (lowB low0 rfl rfl) (aB O0_A rfl)), hf33.blk⟩
theorem c_bitio_Reader_Skip {A : Nat → Prop} {v0_0 : Value} {a0 : bitio_Reader} {b0 : Nat} {a1 : Int} {w : World} (hs0_0 : Sl Rep.b w A v0_0 a0.b) (hb0 : w.heap[b0]? = some (.cells (List.toArray [v0_0, vi a0.n, vi a0.at_]) 107 (0, 0))) (hA : ∀ k, A k → k ≠ b0) {r0 : Bool} {q0 : bitio_Reader} (h : bitio_Reader_Skip a0 a1 = some (r0, q0)) : Rets Try.prog 88 [Value.pointer (some ⟨b0, 0, none⟩), vi a1] w (fun v w' => ∃ (z0_0 : Value), v = Value.bool r0 ∧ Mod (fun k => k = b0) w w' ∧ Sl Rep.b w' (fun k => A k ∨ w.heap.size ≤ k) z0_0 q0.b ∧ w'.heap[b0]? = some (.cells (List.toArray [z0_0, vi q0.n, vi q0.at_]) 107 (0, 0))) := by
 unfold bitio_Reader_Skip at h
 refine Rets.enter Try.func88 rfl rfl ?_
 have hf11 : Sl Rep.b w (imm (Lg.OB b0 3 (Lg.O0 A))) v0_0 a0.b := (Sl.OB (Sl.start hs0_0) (fun k hk => (hA k (O0_A k hk))))
 have hb12 : Blk 3 (Lg.OB b0 3 (Lg.O0 A)) w b0 107 [v0_0, vi a0.n, vi a0.at_] := ⟨(if_pos rfl), hb0⟩
 refine (show WC _ _ _ _ [(0, Value.pointer (some ⟨b0, 0, none⟩)), (1, vi a1)] _ from ?_)
 refine WC.seq ?_
 refine WC.region ?_
 refine WL.y (Y.assign rfl) rfl ?_
 refine WL.nil ?_
 refine At.then ?_
 refine WC.seq ?_
 refine WC.seq ?_
 refine WC.region ?_
 refine WL.y (Y.move rfl) rfl ?_
 refine WL.y (Y.lss_i rfl rfl) rfl ?_
 refine WL.y (Y.move rfl) rfl ?_
 obtain ⟨p17, h, hk18⟩ := bnd h
 refine WL.cut 5 (σ := (Bool × Own)) (fun x w' => x.1 = p17 ∧ Stp [] (Lg.OB b0 3 (Lg.O0 A)) w x.2 w') (fun x => [(0, Value.pointer (some ⟨b0, 0, none⟩)), (1, vi a1), (12, Value.bool x.1)]) ?_ ?_
 ·rcases cnd h with ⟨hE19, h⟩ | ⟨hE19, h⟩
  ·refine WL.ren 7 rfl (congrArg Value.bool hE19) ?_
   refine WL.gS rfl rfl rfl rfl ?_
   refine WL.gS rfl rfl rfl rfl ?_
   refine WL.gS rfl rfl rfl rfl ?_
   refine WL.gS rfl rfl rfl rfl ?_
   refine WL.y (Y.pick (b := true) rfl rfl) rfl ?_
   exact WL.nil (At.join (σ := (Bool × Own)) (true, (Lg.OB b0 3 (Lg.O0 A))) ⟨some1 h, (Stp.refl _ _ _)⟩ (.cons rfl (.cons rfl (.cons rfl .nil))))
  ·refine WL.ren 7 rfl (congrArg Value.bool hE19) ?_
   refine WL.ung rfl rfl ?_
   refine WL.y (Y.move rfl) rfl ?_
   refine WL.ung rfl rfl ?_
   refine WL.y (Y.move rfl) rfl ?_
   refine WL.ung rfl rfl ?_
   obtain ⟨r20, hp21, h⟩ := bnd h
   refine WL.call (vals := [Value.pointer (some ⟨b0, 0, none⟩)]) kok56 rfl rfl (c_bitio_Reader_Left (A := fun _ => True) (a0 := a0) (Sl.all hf11) hb12.blk trivial hp21) ?_
   rintro vr24 wd23 ⟨rfl, hm22⟩
   obtain ⟨O25, hold26, hnew27, hst28⟩ := adoptE (Lg.OB b0 3 (Lg.O0 A)) (fun k => 1) hm22
   refine WL.ung rfl rfl ?_
   refine WL.y (Y.gtr_i rfl rfl) rfl ?_
   refine WL.y (Y.pick (b := false) rfl rfl) rfl ?_
   exact WL.nil (At.join (σ := (Bool × Own)) (decide (r20 < a1), O25) ⟨some1 h, (Stp.up hst28 rfl)⟩ (.cons rfl (.cons rfl (.cons rfl .nil))))
 ·rintro ⟨x13, O14⟩ wd15 ⟨rfl, hst16⟩
  replace h := hk18
  try dsimp only at h hst16
  refine (show WL _ _ _ _ _ [(0, Value.pointer (some ⟨b0, 0, none⟩)), (1, vi a1), (12, Value.bool x13)] _ from ?_)
  refine WL.nil ?_
  refine At.then ?_
  rcases cnd h with ⟨hc29, h⟩ | ⟨hc29, h⟩
  ·refine WC.condT' rfl hc29 ?_
   refine WC.seq ?_
   refine WC.region ?_
   refine WL.y (Y.assign rfl) rfl ?_
   refine WL.nil ?_
   refine At.then ?_
   refine WC.ret ?_
   refine At.thenR ?_
   obtain ⟨rfl, rfl⟩ := tup2 h
   have hs30 : Stp [] (Lg.OB b0 3 (Lg.O0 A)) w O14 wd15 := (Stp.up hst16 rfl)
   have hf31 := hb12.st hst16 rfl
   have hf32 := hf11.mono (imm_st hst16 rfl rfl)
   exact At.res (.inl rfl) rfl (.tmp rfl .nil) ⟨v0_0, rfl, (Stp.modL hs30 sB1 rfl rfl), (Sl.outI hf32 hs30 (lowB low0 rfl rfl) (aB O0_A rfl)), hf31.blk⟩
  ·refine WC.condF' rfl hc29 ?_
   refine WC.skip ?_
   refine At.then ?_
   refine WC.seq ?_
   refine WC.region ?_
   refine WL.y (Y.move rfl) rfl ?_
   refine WL.y (Y.nilCheck rfl) rfl ?_
   refine WL.y (Y.fieldAddr fo107_2 rfl) rfl ?_
   have hf33 := hb12.st hst16 rfl
   refine WL.y (Y.loadSc ty3 rfl rfl (hf33.cell 2 _ rfl)) rfl ?_
   refine WL.y (Y.move rfl) rfl ?_
   refine WL.y (Y.add_i rfl rfl) rfl ?_
   refine WL.y (Y.nilCheck rfl) rfl ?_
   refine WL.y (Y.fieldAddr fo107_2 rfl) rfl ?_
   obtain ⟨t34, ht34, h⟩ := lt1 h
   refine WL.ren 18 rfl (congrArg vi ht34.symm) ?_
   refine WL.store (v := vi t34) (cells' := [v0_0, vi a0.n, vi t34]) ty3 rfl rfl hf33 rfl (Nat.le_of_ble_eq_true rfl) rfl rfl ?_
   intro wd35 hst36 hb37
   refine WL.nil ?_
   refine At.then ?_
   refine WC.seq ?_
   refine WC.region ?_
   refine WL.y (Y.assign rfl) rfl ?_
   refine WL.nil ?_
   refine At.then ?_
   refine WC.ret ?_
   obtain ⟨rfl, rfl⟩ := tup2 h
   have hs38 : Stp [3] (Lg.OB b0 3 (Lg.O0 A)) w O14 wd35 := (Stp.trans (Stp.up hst16 rfl) (Stp.up hst36 rfl))
   have hf39 := hf11.mono (imm_st hst16 rfl rfl)
   have hf40 := hf39.mono (imm_st hst36 rfl rfl)
   exact At.res (.inl rfl) rfl (.tmp rfl .nil) ⟨v0_0, rfl, (Stp.modL hs38 sB1 rfl rfl), (Sl.outI hf40 hs38 (lowB low0 rfl rfl) (aB O0_A rfl)), hb37.blk⟩
theorem c_vary_wide {A : Nat → Prop} {v0_0 : Value} {a0 : bitio_Reader} {b0 : Nat} {a1 : Int} {w : World} (hs0_0 : Sl Rep.b w A v0_0 a0.b) (hb0 : w.heap[b0]? = some (.cells (List.toArray [v0_0, vi a0.n, vi a0.at_]) 107 (0, 0))) (hm0 : A b0) {r0 : UInt64} (h : vary_wide a0 a1 = some r0) : Rets Try.prog 112 [Value.pointer (some ⟨b0, 0, none⟩), vi a1] w (fun v w' => v = vu r0 ∧ Ext w w') := by
 unfold vary_wide at h
 refine Rets.enter Try.func112 rfl rfl ?_
 have hf11 : Sl Rep.b w (imm (Lg.O0 A)) v0_0 a0.b := (Sl.start hs0_0)
 have hb12 : Blk 0 (Lg.O0 A) w b0 107 [v0_0, vi a0.n, vi a0.at_] := ⟨(if_pos hm0), hb0⟩
 refine (show WC _ _ _ _ [(0, Value.pointer (some ⟨b0, 0, none⟩)), (1, vi a1)] _ from ?_)
 refine WC.seq ?_
 refine WC.region ?_
 refine WL.y (Y.assign (v := vu 0) rfl) rfl ?_
 refine WL.nil ?_
 refine At.then ?_
 refine WC.seq ?_
 refine WC.region ?_
 refine WL.y (Y.move rfl) rfl ?_
 obtain ⟨⟨r13, r14⟩, hp15, h⟩ := bnd h
 refine WL.call (vals := [Value.pointer (some ⟨b0, 0, none⟩), vi 64]) kok110 rfl rfl (c_bitio_Reader_Look (A := fun _ => True) (a0 := a0) (Sl.all hf11) hb12.blk trivial hp15) ?_
 rintro vr18 wd17 ⟨rfl, hm16⟩
 obtain ⟨O19, hold20, hnew21, hst22⟩ := adoptE (Lg.O0 A) (fun k => 1) hm16
 refine WL.y (Y.move rfl) rfl ?_
 refine WL.y (Y.extract rfl rfl) rfl ?_
 refine WL.y (Y.extract rfl rfl) rfl ?_
 refine WL.y (Y.assign rfl) rfl ?_
 refine WL.y (Y.assign rfl) rfl ?_
 refine WL.nil ?_
 refine At.then ?_
 refine WC.seq ?_
 refine WC.region ?_
 refine WL.y (Y.move rfl) rfl ?_
 refine WL.y (Y.nilCheck rfl) rfl ?_
 have hf23 := hb12.st hst22 rfl
 refine WL.y (Y.loadAg ty107 rfl rfl (hf23.cells 0 [v0_0, vi a0.n, vi a0.at_] rfl) rfl) rfl ?_
 refine WL.alloc (O := O19) 11 [Value.slice none 0 0, vi 0, vi 0] ty107 rfl rfl ?_
 intro p25 O26 wd27 hst28 hb24
 have hf29 := hf11.mono (imm_st hst22 rfl rfl)
 have hf30 := hf29.mono (imm_st hst28 rfl rfl)
 have hh34 := h
 obtain ⟨p31, m32, c33, rfl⟩ := hf30.shape
 have h := hh34
 refine WL.store (v := Value.agg (List.toArray [(Value.slice p31 m32 c33), vi a0.n, vi a0.at_])) (cells' := [(Value.slice p31 m32 c33), vi a0.n, vi a0.at_]) ty107 rfl rfl hb24 rfl (Nat.le_of_ble_eq_true rfl) rfl rfl ?_
 intro wd35 hst36 hb37
 refine WL.nil ?_
 refine At.then ?_
 refine WC.seq ?_
 refine WC.region ?_
 have hf38 := hf30.mono (imm_st hst36 rfl rfl)
 obtain ⟨⟨r39, r40⟩, hp41, h⟩ := bnd h
 refine WL.call (vals := [Value.pointer (some ⟨p25, 0, none⟩), vi 64]) kok88 rfl rfl (c_bitio_Reader_Skip (A := imm O26) (a0 := a0) hf38 hb37.blk (fun k hk => imm_ne hb37.lab rfl k hk) hp41) ?_
 rintro vr47 wd46 ⟨z42, rfl, hm45, f43, f44⟩
 obtain ⟨O48, hold49, hnew50, hst51⟩ := adopt O26 (fun k => 1) [11] hm45 (memB hb37.lab rfl)
 have hf52 : Sl Rep.b wd46 (imm O48) z42 r40.b := Sl.adoptI (O := O26) f43 (fun _ hk => hk) (fun _ _ => Nat.le_refl _) hold49 hnew50
 have hb53 : Blk 11 O48 wd46 p25 107 [z42, vi r40.n, vi r40.at_] := Blk.adopt hb37 hold49 f44
 refine WL.nil ?_
 refine At.then ?_
 refine WC.seq ?_
 refine WC.region ?_
 refine WL.y (Y.move rfl) rfl ?_
 obtain ⟨⟨r54, r55⟩, hp56, h⟩ := bnd h
 refine WL.call (vals := [Value.pointer (some ⟨p25, 0, none⟩), vi a1]) kok110 rfl rfl (c_bitio_Reader_Look (A := fun _ => True) (a0 := r40) (Sl.all hf52) hb53.blk trivial hp56) ?_
 rintro vr59 wd58 ⟨rfl, hm57⟩
 obtain ⟨O60, hold61, hnew62, hst63⟩ := adoptE O48 (fun k => 1) hm57
 refine WL.y (Y.move rfl) rfl ?_
 refine WL.y (Y.extract rfl rfl) rfl ?_
 refine WL.y (Y.extract rfl rfl) rfl ?_
 refine WL.y (Y.assign rfl) rfl ?_
 refine WL.y (Y.assign rfl) rfl ?_
 refine WL.nil ?_
 refine At.then ?_
 refine WC.seq ?_
 refine WC.region ?_
 refine WL.y (Y.move rfl) rfl ?_
 refine WL.y (Y.move rfl) rfl ?_
 refine WL.y (Y.conv_iu ty3.u ty82.u rfl) rfl ?_
 refine WL.y (Y.shl_uu rfl rfl) rfl ?_
 refine WL.y (Y.move rfl) rfl ?_
 refine WL.y (Y.or_u rfl rfl) rfl ?_
 obtain ⟨t64, ht64, h⟩ := lt1 h
 refine WL.yE (Y.assign rfl) (congrArg vu ht64.symm) rfl ?_
 refine WL.nil ?_
 refine At.then ?_
 refine WC.ret ?_
 obtain rfl := some1 h
 have hs65 : Stp [11] (Lg.O0 A) w O60 wd58 := (Stp.trans (Stp.up hst22 rfl) (Stp.trans (Stp.up hst28 rfl) (Stp.trans (Stp.up hst36 rfl) (Stp.trans (Stp.up hst51 rfl) (Stp.up hst63 rfl)))))
 exact At.res (.inl rfl) rfl (.tmp rfl .nil) ⟨rfl, (Stp.ext hs65 rfl rfl)⟩
theorem c_vary_Get {A : Nat → Prop} {v0_0 : Value} {a0 : bitio_Reader} {b0 : Nat} {w : World} (hs0_0 : Sl Rep.b w A v0_0 a0.b) (hb0 : w.heap[b0]? = some (.cells (List.toArray [v0_0, vi a0.n, vi a0.at_]) 107 (0, 0))) (hA : ∀ k, A k → k ≠ b0) {r0 : UInt64} {r1 : Int} {q0 : bitio_Reader} (h : vary_Get a0 = some (r0, r1, q0)) : Rets Try.prog 106 [Value.pointer (some ⟨b0, 0, none⟩)] w (fun v w' => ∃ (z0_0 : Value), v = Value.tuple (List.toArray [vu r0, vi r1]) ∧ Mod (fun k => k = b0) w w' ∧ Sl Rep.b w' (fun k => A k ∨ w.heap.size ≤ k) z0_0 q0.b ∧ w'.heap[b0]? = some (.cells (List.toArray [z0_0, vi q0.n, vi q0.at_]) 107 (0, 0))) := by
 unfold vary_Get at h
 refine Rets.enter Try.func106 rfl rfl ?_
 have hf11 : Sl Rep.b w (imm (Lg.OB b0 3 (Lg.O0 A))) v0_0 a0.b := (Sl.OB (Sl.start hs0_0) (fun k hk => (hA k (O0_A k hk))))
 have hb12 : Blk 3 (Lg.OB b0 3 (Lg.O0 A)) w b0 107 [v0_0, vi a0.n, vi a0.at_] := ⟨(if_pos rfl), hb0⟩
 refine (show WC _ _ _ _ [(0, Value.pointer (some ⟨b0, 0, none⟩))] _ from ?_)
 refine WC.seq ?_
 refine WC.region ?_
 refine WL.y (Y.assign (v := vu 0) rfl) rfl ?_
 refine WL.y (Y.assign rfl) rfl ?_
 refine WL.nil ?_
 refine At.then ?_
 refine WC.seq ?_
 refine WC.region ?_
 refine WL.y (Y.move rfl) rfl ?_
 obtain ⟨⟨r13, r14⟩, hp15, h⟩ := bnd h
 refine WL.call (vals := [Value.pointer (some ⟨b0, 0, none⟩), vi 2]) kok110 rfl rfl (c_bitio_Reader_Look (A := fun _ => True) (a0 := a0) (Sl.all hf11) hb12.blk trivial hp15) ?_
 rintro vr18 wd17 ⟨rfl, hm16⟩
 obtain ⟨O19, hold20, hnew21, hst22⟩ := adoptE (Lg.OB b0 3 (Lg.O0 A)) (fun k => 1) hm16
 refine WL.y (Y.move rfl) rfl ?_
 refine WL.y (Y.extract rfl rfl) rfl ?_
 refine WL.y (Y.extract rfl rfl) rfl ?_
 refine WL.y (Y.assign rfl) rfl ?_
 refine WL.y (Y.assign rfl) rfl ?_
 refine WL.nil ?_
 refine At.then ?_
 refine WC.seq ?_
 refine WC.seq ?_
 refine WC.region ?_
 refine WL.y (Y.move rfl) rfl ?_
 refine WL.y (Y.not rfl) rfl ?_
 refine WL.nil ?_
 refine At.then ?_
 rcases cnd h with ⟨hc23, h⟩ | ⟨hc23, h⟩
 ·refine WC.condT' rfl hc23 ?_
  refine WC.seq ?_
  refine WC.region ?_
  refine WL.y (Y.assign (v := vu 0) rfl) rfl ?_
  refine WL.y (Y.assign rfl) rfl ?_
  refine WL.nil ?_
  refine At.then ?_
  refine WC.ret ?_
  refine At.thenR ?_
  obtain ⟨rfl, rfl, rfl⟩ := tup3 h
  have hs24 : Stp [] (Lg.OB b0 3 (Lg.O0 A)) w O19 wd17 := (Stp.up hst22 rfl)
  have hf25 := hb12.st hst22 rfl
  have hf26 := hf11.mono (imm_st hst22 rfl rfl)
  exact At.res (.inl rfl) rfl (.tmp rfl (.tmp rfl .nil)) ⟨v0_0, rfl, (Stp.modL hs24 sB1 rfl rfl), (Sl.outI hf26 hs24 (lowB low0 rfl rfl) (aB O0_A rfl)), hf25.blk⟩
 ·refine WC.condF' rfl hc23 ?_
  refine WC.skip ?_
  refine At.then ?_
  refine WC.seq ?_
  refine WC.region ?_
  obtain ⟨r27, hp28, h⟩ := bnd h
  refine WL.call (vals := []) kok97 rfl rfl (c_vary_sizes hp28) ?_
  rintro vr34 wd33 ⟨cs29, rfl, hm32, f30, f31⟩
  obtain ⟨O35, hold36, hnew37, hst38⟩ := adoptE O19 (fun k => 1) hm32
  have hf39 := Rows'.adoptF f30 (fun k hk => ⟨hk, rfl⟩) hnew37
  refine WL.y (Y.move rfl) rfl ?_
  obtain ⟨e40, he40, h⟩ := bnd h
  obtain ⟨cs41, hcs42, hok43⟩ := arrAt (R := Rep.i) (w := wd33) (A := imm O35) (cells := cs29) hf39 he40
  obtain rfl := hok43
  replace hcs42 : _ = [vi e40] := hcs42
  refine WL.y (Y.indexArrSc ty125 ty3 rfl rfl hcs42 he40 f31) rfl ?_
  refine WL.y (Y.assign rfl) rfl ?_
  refine WL.nil ?_
  refine At.then ?_
  refine WC.seq ?_
  refine WC.seq ?_
  refine WC.region ?_
  refine WL.y (Y.move rfl) rfl ?_
  refine WL.y (Y.add_i rfl rfl) rfl ?_
  refine WL.y (Y.move rfl) rfl ?_
  have hf44 := hb12.st hst22 rfl
  have hf45 := hf44.st hst38 rfl
  have hf46 := hf11.mono (imm_st hst22 rfl rfl)
  have hf47 := hf46.mono (imm_st hst38 rfl rfl)
  obtain ⟨r48, hp49, h⟩ := bnd h
  refine WL.call (vals := [Value.pointer (some ⟨b0, 0, none⟩)]) kok56 rfl rfl (c_bitio_Reader_Left (A := fun _ => True) (a0 := a0) (Sl.all hf47) hf45.blk trivial hp49) ?_
  rintro vr52 wd51 ⟨rfl, hm50⟩
  obtain ⟨O53, hold54, hnew55, hst56⟩ := adoptE O35 (fun k => 1) hm50
  refine WL.y (Y.gtr_i rfl rfl) rfl ?_
  refine WL.nil ?_
  refine At.then ?_
  rcases cnd h with ⟨hc57, h⟩ | ⟨hc57, h⟩
  ·refine WC.condT' rfl hc57 ?_
   refine WC.seq ?_
   refine WC.region ?_
   refine WL.y (Y.assign (v := vu 0) rfl) rfl ?_
   refine WL.y (Y.assign rfl) rfl ?_
   refine WL.nil ?_
   refine At.then ?_
   refine WC.ret ?_
   refine At.thenR ?_
   obtain ⟨rfl, rfl, rfl⟩ := tup3 h
   have hs58 : Stp [] (Lg.OB b0 3 (Lg.O0 A)) w O53 wd51 := (Stp.trans (Stp.up hst22 rfl) (Stp.trans (Stp.up hst38 rfl) (Stp.up hst56 rfl)))
   have hf59 := hf45.st hst56 rfl
   have hf60 := hf47.mono (imm_st hst56 rfl rfl)
   exact At.res (.inl rfl) rfl (.tmp rfl (.tmp rfl .nil)) ⟨v0_0, rfl, (Stp.modL hs58 sB1 rfl rfl), (Sl.outI hf60 hs58 (lowB low0 rfl rfl) (aB O0_A rfl)), hf59.blk⟩
  ·refine WC.condF' rfl hc57 ?_
   refine WC.skip ?_
   refine At.then ?_
   refine WC.seq ?_
   refine WC.region ?_
   refine WL.y (Y.move rfl) rfl ?_
   refine WL.y (Y.move rfl) rfl ?_
   refine WL.y (Y.add_i rfl rfl) rfl ?_
   refine WL.y (Y.min_i rfl rfl) rfl ?_
   have hf61 := hf45.st hst56 rfl
   have hf62 := hf47.mono (imm_st hst56 rfl rfl)
   obtain ⟨⟨r63, r64⟩, hp65, h⟩ := bnd h
   refine WL.call (vals := [Value.pointer (some ⟨b0, 0, none⟩), vi (min (w64 (2 + e40)) 64)]) kok110 rfl rfl (c_bitio_Reader_Look (A := fun _ => True) (a0 := a0) (Sl.all hf62) hf61.blk trivial hp65) ?_
   rintro vr68 wd67 ⟨rfl, hm66⟩
   obtain ⟨O69, hold70, hnew71, hst72⟩ := adoptE O53 (fun k => 1) hm66
   refine WL.y (Y.move rfl) rfl ?_
   refine WL.y (Y.extract rfl rfl) rfl ?_
   refine WL.y (Y.extract rfl rfl) rfl ?_
   refine WL.y (Y.assign rfl) rfl ?_
   refine WL.y (Y.assign rfl) rfl ?_
   refine WL.nil ?_
   refine At.then ?_
   refine WC.seq ?_
   obtain ⟨p77, h, hk78⟩ := bnd h
   refine WC.join (σ := (UInt64 × Own)) (fun x w' => x.1 = p77 ∧ Stp [] O69 wd67 x.2 w') (fun x => [(0, Value.pointer (some ⟨b0, 0, none⟩)), (4, vu r13), (6, vi e40), (7, vu x.1)]) ?_ ?_
   ·refine WC.seq ?_
    refine WC.region ?_
    refine WL.y (Y.move rfl) rfl ?_
    refine WL.y (Y.lss_i rfl rfl) rfl ?_
    refine WL.nil ?_
    refine At.then ?_
    rcases cnd h with ⟨hc79, h⟩ | ⟨hc79, h⟩
    ·refine WC.condT' rfl hc79 ?_
     refine WC.region ?_
     refine WL.y (Y.move rfl) rfl ?_
     refine WL.y (Y.move rfl) rfl ?_
     refine WL.y (Y.conv_iu ty3.u ty82.u rfl) rfl ?_
     refine WL.y (Y.shl_uu (a := 1) rfl rfl) rfl ?_
     refine WL.y (Y.sub_u (b := 1) rfl rfl) rfl ?_
     refine WL.y (Y.and_u rfl rfl) rfl ?_
     obtain ⟨v80, hv80, h⟩ := lt1 h
     refine WL.yE (Y.assign rfl) (congrArg vu hv80.symm) rfl ?_
     refine WL.nil ?_
     exact At.join (σ := (UInt64 × Own)) (v80, O69) ⟨some1 h, (Stp.refl _ _ _)⟩ (.cons rfl (.cons rfl (.cons rfl (.cons rfl .nil))))
    ·refine WC.condF' rfl hc79 ?_
     refine WC.region ?_
     refine WL.y (Y.move rfl) rfl ?_
     have hf81 := hf61.st hst72 rfl
     have hf82 := hf62.mono (imm_st hst72 rfl rfl)
     obtain ⟨r83, hp84, h⟩ := bnd h
     refine WL.call (vals := [Value.pointer (some ⟨b0, 0, none⟩), vi 2]) kok112 rfl rfl (c_vary_wide (A := fun _ => True) (a0 := a0) (Sl.all hf82) hf81.blk trivial hp84) ?_
     rintro vr87 wd86 ⟨rfl, hm85⟩
     obtain ⟨O88, hold89, hnew90, hst91⟩ := adoptE O69 (fun k => 1) hm85
     refine WL.y (Y.assign rfl) rfl ?_
     refine WL.nil ?_
     exact At.join (σ := (UInt64 × Own)) (r83, O88) ⟨some1 h, (Stp.up hst91 rfl)⟩ (.cons rfl (.cons rfl (.cons rfl (.cons rfl .nil))))
   ·rintro ⟨v73, O74⟩ wd75 ⟨rfl, hst76⟩
    replace h := hk78
    try dsimp only at h hst76
    refine (show At _ _ _ [(0, Value.pointer (some ⟨b0, 0, none⟩)), (4, vu r13), (6, vi e40), (7, vu v73)] _ from ?_)
    refine At.then ?_
    refine WC.seq ?_
    refine WC.seq ?_
    refine WC.region ?_
    refine WL.y (Y.move rfl) rfl ?_
    obtain ⟨r92, hp93, h⟩ := bnd h
    refine WL.call (vals := [vu v73]) kok96 rfl rfl (c_vary_class hp93) ?_
    rintro vr96 wd95 ⟨rfl, hm94⟩
    obtain ⟨O97, hold98, hnew99, hst100⟩ := adoptE O74 (fun k => 1) hm94
    refine WL.y (Y.move rfl) rfl ?_
    refine WL.y (Y.conv_ui ty22.u ty3.u rfl) rfl ?_
    refine WL.y (Y.neq_i rfl rfl) rfl ?_
    refine WL.nil ?_
    refine At.then ?_
    rcases cnd h with ⟨hc101, h⟩ | ⟨hc101, h⟩
    ·refine WC.condT' rfl hc101 ?_
     refine WC.seq ?_
     refine WC.region ?_
     refine WL.y (Y.assign (v := vu 0) rfl) rfl ?_
     refine WL.y (Y.assign rfl) rfl ?_
     refine WL.nil ?_
     refine At.then ?_
     refine WC.ret ?_
     refine At.thenR ?_
     obtain ⟨rfl, rfl, rfl⟩ := tup3 h
     have hs102 : Stp [] (Lg.OB b0 3 (Lg.O0 A)) w O97 wd95 := (Stp.trans (Stp.up hst22 rfl) (Stp.trans (Stp.up hst38 rfl) (Stp.trans (Stp.up hst56 rfl) (Stp.trans (Stp.up hst72 rfl) (Stp.trans (Stp.up hst76 rfl) (Stp.up hst100 rfl))))))
     have hf103 := hf61.st hst72 rfl
     have hf104 := hf103.st hst76 rfl
     have hf105 := hf104.st hst100 rfl
     have hf106 := hf62.mono (imm_st hst72 rfl rfl)
     have hf107 := hf106.mono (imm_st hst76 rfl rfl)
     have hf108 := hf107.mono (imm_st hst100 rfl rfl)
     exact At.res (.inl rfl) rfl (.tmp rfl (.tmp rfl .nil)) ⟨v0_0, rfl, (Stp.modL hs102 sB1 rfl rfl), (Sl.outI hf108 hs102 (lowB low0 rfl rfl) (aB O0_A rfl)), hf105.blk⟩
    ·refine WC.condF' rfl hc101 ?_
     refine WC.skip ?_
     refine At.then ?_
     refine WC.seq ?_
     refine WC.region ?_
     refine WL.y (Y.move rfl) rfl ?_
     refine WL.y (Y.move rfl) rfl ?_
     refine WL.y (Y.add_i rfl rfl) rfl ?_
     have hf109 := hf61.st hst72 rfl
     have hf110 := hf109.st hst76 rfl
     have hf111 := hf110.st hst100 rfl
     have hf112 := hf62.mono (imm_st hst72 rfl rfl)
     have hf113 := hf112.mono (imm_st hst76 rfl rfl)
     have hf114 := hf113.mono (imm_st hst100 rfl rfl)
     obtain ⟨⟨r115, r116⟩, hp117, h⟩ := bnd h
     refine WL.call (vals := [Value.pointer (some ⟨b0, 0, none⟩), vi (w64 (2 + e40))]) kok88 rfl rfl (c_bitio_Reader_Skip (A := imm O97) (a0 := a0) hf114 hf111.blk (fun k hk => imm_ne hf111.lab rfl k hk) hp117) ?_
     rintro vr123 wd122 ⟨z118, rfl, hm121, f119, f120⟩
     obtain ⟨O124, hold125, hnew126, hst127⟩ := adopt O97 (fun k => 1) [3] hm121 (memB hf111.lab rfl)
     have hf128 : Sl Rep.b wd122 (imm O124) z118 r116.b := Sl.adoptI (O := O97) f119 (fun _ hk => hk) (fun _ _ => Nat.le_refl _) hold125 hnew126
     have hb129 : Blk 3 O124 wd122 b0 107 [z118, vi r116.n, vi r116.at_] := Blk.adopt hf111 hold125 f120
     refine WL.nil ?_
     refine At.then ?_
     refine WC.seq ?_
     refine WC.region ?_
     refine WL.y (Y.move rfl) rfl ?_
     refine WL.y (Y.assign rfl) rfl ?_
     refine WL.y (Y.assign rfl) rfl ?_
     refine WL.nil ?_
     refine At.then ?_
     refine WC.ret ?_
     obtain ⟨rfl, rfl, rfl⟩ := tup3 h
     have hs130 : Stp [3] (Lg.OB b0 3 (Lg.O0 A)) w O124 wd122 := (Stp.trans (Stp.up hst22 rfl) (Stp.trans (Stp.up hst38 rfl) (Stp.trans (Stp.up hst56 rfl) (Stp.trans (Stp.up hst72 rfl) (Stp.trans (Stp.up hst76 rfl) (Stp.trans (Stp.up hst100 rfl) (Stp.up hst127 rfl)))))))
     exact At.res (.inl rfl) rfl (.tmp rfl (.tmp rfl .nil)) ⟨z118, rfl, (Stp.modL hs130 sB1 rfl rfl), (Sl.outI hf128 hs130 (lowB low0 rfl rfl) (aB O0_A rfl)), hb129.blk⟩
theorem c_pack_Zag {a0 : UInt64} {w : World} {r0 : Int} (h : pack_Zag a0 = some r0) : Rets Try.prog 111 [vu a0] w (fun v w' => v = vi r0 ∧ Ext w w') := by
 unfold pack_Zag at h
 refine Rets.enter Try.func111 rfl rfl ?_
 refine (show WC _ _ _ _ [(0, vu a0)] _ from ?_)
 refine WC.seq ?_
 refine WC.region ?_
 refine WL.y (Y.assign rfl) rfl ?_
 refine WL.nil ?_
 refine At.then ?_
 refine WC.seq ?_
 refine WC.region ?_
 refine WL.y (Y.move rfl) rfl ?_
 refine WL.y (Y.shr_uu (m := 1) rfl rfl) rfl ?_
 refine WL.y (Y.conv_ui ty22.u ty3.u rfl) rfl ?_
 refine WL.y (Y.move rfl) rfl ?_
 refine WL.y (Y.and_u (b := 1) rfl rfl) rfl ?_
 refine WL.y (Y.conv_ui ty22.u ty3.u rfl) rfl ?_
 refine WL.y (Y.neg_i rfl) rfl ?_
 refine WL.y (Y.xor_i rfl rfl) rfl ?_
 obtain ⟨t11, ht11, h⟩ := lt1 h
 refine WL.yE (Y.assign rfl) (congrArg vi ht11.symm) rfl ?_
 refine WL.nil ?_
 refine At.then ?_
 refine WC.ret ?_
 obtain rfl := some1 h
 have hs12 : Stp [] (Lg.O0 (fun _ => False)) w (Lg.O0 (fun _ => False)) w := (Stp.refl _ _ _)
 exact At.res (.inl rfl) rfl (.tmp rfl .nil) ⟨rfl, (Stp.ext hs12 rfl rfl)⟩
theorem c_vary_GetInt {A : Nat → Prop} {v0_0 : Value} {a0 : bitio_Reader} {b0 : Nat} {w : World} (hs0_0 : Sl Rep.b w A v0_0 a0.b) (hb0 : w.heap[b0]? = some (.cells (List.toArray [v0_0, vi a0.n, vi a0.at_]) 107 (0, 0))) (hA : ∀ k, A k → k ≠ b0) {r0 : Int} {r1 : Int} {q0 : bitio_Reader} (h : vary_GetInt a0 = some (r0, r1, q0)) : Rets Try.prog 105 [Value.pointer (some ⟨b0, 0, none⟩)] w (fun v w' => ∃ (z0_0 : Value), v = Value.tuple (List.toArray [vi r0, vi r1]) ∧ Mod (fun k => k = b0) w w' ∧ Sl Rep.b w' (fun k => A k ∨ w.heap.size ≤ k) z0_0 q0.b ∧ w'.heap[b0]? = some (.cells (List.toArray [z0_0, vi q0.n, vi q0.at_]) 107 (0, 0))) := by
 unfold vary_GetInt at h
 refine Rets.enter Try.func105 rfl rfl ?_
 have hf11 : Sl Rep.b w (imm (Lg.OB b0 3 (Lg.O0 A))) v0_0 a0.b := (Sl.OB (Sl.start hs0_0) (fun k hk => (hA k (O0_A k hk))))
 have hb12 : Blk 3 (Lg.OB b0 3 (Lg.O0 A)) w b0 107 [v0_0, vi a0.n, vi a0.at_] := ⟨(if_pos rfl), hb0⟩
 refine (show WC _ _ _ _ [(0, Value.pointer (some ⟨b0, 0, none⟩))] _ from ?_)
 refine WC.seq ?_
 refine WC.region ?_
 refine WL.y (Y.assign rfl) rfl ?_
 refine WL.y (Y.assign rfl) rfl ?_
 refine WL.nil ?_
 refine At.then ?_
 refine WC.seq ?_
 refine WC.region ?_
 refine WL.y (Y.move rfl) rfl ?_
 obtain ⟨⟨r13, r14, r15⟩, hp16, h⟩ := bnd h
 refine WL.call (vals := [Value.pointer (some ⟨b0, 0, none⟩)]) kok106 rfl rfl (c_vary_Get (A := imm (Lg.OB b0 3 (Lg.O0 A))) (a0 := a0) hf11 hb12.blk (fun k hk => imm_ne hb12.lab rfl k hk) hp16) ?_
 rintro vr22 wd21 ⟨z17, rfl, hm20, f18, f19⟩
 obtain ⟨O23, hold24, hnew25, hst26⟩ := adopt (Lg.OB b0 3 (Lg.O0 A)) (fun k => 1) [3] hm20 (memB hb12.lab rfl)
 have hf27 : Sl Rep.b wd21 (imm O23) z17 r15.b := Sl.adoptI (O := (Lg.OB b0 3 (Lg.O0 A))) f18 (fun _ hk => hk) (fun _ _ => Nat.le_refl _) hold24 hnew25
 have hb28 : Blk 3 O23 wd21 b0 107 [z17, vi r15.n, vi r15.at_] := Blk.adopt hb12 hold24 f19
 refine WL.y (Y.move rfl) rfl ?_
 refine WL.y (Y.extract rfl rfl) rfl ?_
 refine WL.y (Y.extract rfl rfl) rfl ?_
 refine WL.y (Y.assign rfl) rfl ?_
 refine WL.y (Y.assign rfl) rfl ?_
 refine WL.nil ?_
 refine At.then ?_
 refine WC.seq ?_
 refine WC.region ?_
 refine WL.y (Y.move rfl) rfl ?_
 obtain ⟨r29, hp30, h⟩ := bnd h
 refine WL.call (vals := [vu r13]) kok111 rfl rfl (c_pack_Zag hp30) ?_
 rintro vr33 wd32 ⟨rfl, hm31⟩
 obtain ⟨O34, hold35, hnew36, hst37⟩ := adoptE O23 (fun k => 1) hm31
 refine WL.y (Y.move rfl) rfl ?_
 refine WL.y (Y.assign rfl) rfl ?_
 refine WL.y (Y.assign rfl) rfl ?_
 refine WL.nil ?_
 refine At.then ?_
 refine WC.ret ?_
 obtain ⟨rfl, rfl, rfl⟩ := tup3 h
 have hs38 : Stp [3] (Lg.OB b0 3 (Lg.O0 A)) w O34 wd32 := (Stp.trans (Stp.up hst26 rfl) (Stp.up hst37 rfl))
 have hf39 := hb28.st hst37 rfl
 have hf40 := hf27.mono (imm_st hst37 rfl rfl)
 exact At.res (.inl rfl) rfl (.tmp rfl (.tmp rfl .nil)) ⟨z17, rfl, (Stp.modL hs38 sB1 rfl rfl), (Sl.outI hf40 hs38 (lowB low0 rfl rfl) (aB O0_A rfl)), hf39.blk⟩
end Go.Lg
