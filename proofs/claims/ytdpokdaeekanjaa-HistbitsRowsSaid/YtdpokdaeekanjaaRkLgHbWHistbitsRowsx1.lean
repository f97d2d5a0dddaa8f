/- The walks of HistbitsRows and of what it calls, printed by gen.py. -/
import Derived.Test.YtdpokdaeekanjaaRkLgHbWHistbitsRowsx0
set_option linter.unusedVariables false
namespace Go.Lg
open Go Go.Proofs
set_option maxRecDepth 100000
set_option maxHeartbeats 4000000
theorem c_bitio_Reader_Skip {A : Nat → Prop} {v0_0 : Value} {a0 : bitio_Reader} {b0 : Nat} {a1 : Int} {w : World} (hs0_0 : Sl Rep.b w A v0_0 a0.b) (hb0 : w.heap[b0]? = some (.cells (List.toArray [v0_0, vi a0.n, vi a0.at_]) 107 (0, 0))) (hA : ∀ k, A k → k ≠ b0) {r0 : Bool} {q0 : bitio_Reader} (h : bitio_Reader_Skip a0 a1 = some (r0, q0)) : Rets Try.prog 88 [Value.pointer (some ⟨b0, 0, none⟩), vi a1] w (fun v w' => ∃ (z0_0 : Value), v = Value.bool r0 ∧ Mod (fun k => k = b0) w w' ∧ Sl Rep.b w' (fun k => A k ∨ w.heap.size ≤ k) z0_0 q0.b ∧ w'.heap[b0]? = some (.cells (List.toArray [z0_0, vi q0.n, vi q0.at_]) 107 (0, 0))) := by
 unfold bitio_Reader_Skip at h
 refine Rets.enter Try.func88 rfl rfl ?_
 have hf11 : Sl Rep.b w (imm (Lg.OB b0 3 (Lg.O0 A))) v0_0 a0.b := (Sl.OB (Sl.start hs0_0) (fun k hk => (hA k (O0_A k hk))))
 have hb12 : Blk 3 (Lg.OB b0 3 (Lg.O0 A)) w b0 107 [v0_0, vi a0.n, vi a0.at_] := ⟨(if_pos rfl), hb0⟩
 refine (show WC _ _ _ _ [(0, Value.pointer (some ⟨b0, 0, none⟩)), (1, vi a1)] _ from ?_)
 refine WC.seq ?_
 refine WC.region ?_
 refine WL.y (Y.assign rfl) rfl ?_
 refine WL.nil ?_
 refine At.then ?_
 refine WC.seq ?_
 refine WC.seq ?_
 refine WC.region ?_
 refine WL.y (Y.move rfl) rfl ?_
 refine WL.y (Y.lss_i rfl rfl) rfl ?_
 refine WL.y (Y.move rfl) rfl ?_
 obtain ⟨p17, h, hk18⟩ := bnd h
 refine WL.cut 5 (σ := (Bool × Own)) (fun x w' => x.1 = p17 ∧ Stp [] (Lg.OB b0 3 (Lg.O0 A)) w x.2 w') (fun x => [(0, Value.pointer (some ⟨b0, 0, none⟩)), (1, vi a1), (12, Value.bool x.1)]) ?_ ?_
 ·rcases cnd h with ⟨hE19, h⟩ | ⟨hE19, h⟩
  ·refine WL.ren 7 rfl (congrArg Value.bool hE19) ?_
   refine WL.gS rfl rfl rfl rfl ?_
   refine WL.gS rfl rfl rfl rfl ?_
   refine WL.gS rfl rfl rfl rfl ?_
   refine WL.gS rfl rfl rfl rfl ?_
   refine WL.y (Y.pick (b := true) rfl rfl) rfl ?_
   exact WL.nil (At.join (σ := (Bool × Own)) (true, (Lg.OB b0 3 (Lg.O0 A))) ⟨some1 h, (Stp.refl _ _ _)⟩ (.cons rfl (.cons rfl (.cons rfl .nil))))
  ·refine WL.ren 7 rfl (congrArg Value.bool hE19) ?_
   refine WL.ung rfl rfl ?_
   refine WL.y (Y.move rfl) rfl ?_
   refine WL.ung rfl rfl ?_
   refine WL.y (Y.move rfl) rfl ?_
   refine WL.ung rfl rfl ?_
   obtain ⟨r20, hp21, h⟩ := bnd h
   refine WL.call (vals := [Value.pointer (some ⟨b0, 0, none⟩)]) kok56 rfl rfl (c_bitio_Reader_Left (A := fun _ => True) (a0 := a0) (Sl.all hf11) hb12.blk trivial hp21) ?_
   rintro vr24 wd23 ⟨rfl, hm22⟩
   obtain ⟨O25, hold26, hnew27, hst28⟩ := adoptE (Lg.OB b0 3 (Lg.O0 A)) (fun k => 1) hm22
   refine WL.ung rfl rfl ?_
   refine WL.y (Y.gtr_i rfl rfl) rfl ?_
   refine WL.y (Y.pick (b := false) rfl rfl) rfl ?_
   exact WL.nil (At.join (σ := (Bool × Own)) (decide (r20 < a1), O25) ⟨some1 h, (Stp.up hst28 rfl)⟩ (.cons rfl (.cons rfl (.cons rfl .nil))))
 ·rintro ⟨x13, O14⟩ wd15 ⟨rfl, hst16⟩
  replace h := hk18
  try dsimp only at h hst16
  refine (show WL _ _ _ _ _ [(0, Value.pointer (some ⟨b0, 0, none⟩)), (1, vi a1), (12, Value.bool x13)] _ from ?_)
  refine WL.nil ?_
  refine At.then ?_
  rcases cnd h with ⟨hc29, h⟩ | ⟨hc29, h⟩
  ·refine WC.condT' rfl hc29 ?_
   refine WC.seq ?_
   refine WC.region ?_
   refine WL.y (Y.assign rfl) rfl ?_
   refine WL.nil ?_
   refine At.then ?_
   refine WC.ret ?_
   refine At.thenR ?_
   obtain ⟨rfl, rfl⟩ := tup2 h
   have hs30 : Stp [] (Lg.OB b0 3 (Lg.O0 A)) w O14 wd15 := (Stp.up hst16 rfl)
   have hf31 := hb12.st hst16 rfl
   have hf32 := hf11.mono (imm_st hst16 rfl rfl)
   exact At.res (.inl rfl) rfl (.tmp rfl .nil) ⟨v0_0, rfl, (Stp.modL hs30 sB1 rfl rfl), (Sl.outI hf32 hs30 (lowB low0 rfl rfl) (aB O0_A rfl)), hf31.blk⟩
  ·refine WC.condF' rfl hc29 ?_
   refine WC.skip ?_
   refine At.then ?_
   refine WC.seq ?_
   refine WC.region ?_
   refine WL.y (Y.move rfl) rfl ?_
   refine WL.y (Y.nilCheck rfl) rfl ?_
   refine WL.y (Y.fieldAddr fo107_2 rfl) rfl ?_
   have hf33 := hb12.st hst16 rfl
   refine WL.y (Y.loadSc ty3 rfl rfl (hf33.cell 2 _ rfl)) rfl ?_
   refine WL.y (Y.move rfl) rfl ?_
   refine WL.y (Y.add_i rfl rfl) rfl ?_
   refine WL.y (Y.nilCheck rfl) rfl ?_
   refine WL.y (Y.fieldAddr fo107_2 rfl) rfl ?_
   obtain ⟨t34, ht34, h⟩ := lt1 h
   refine WL.ren 18 rfl (congrArg vi ht34.symm) ?_
   refine WL.store (v := vi t34) (cells' := [v0_0, vi a0.n, vi t34]) ty3 rfl rfl hf33 rfl (Nat.le_of_ble_eq_true rfl) rfl rfl ?_
   intro wd35 hst36 hb37
   refine WL.nil ?_
   refine At.then ?_
   refine WC.seq ?_
   refine WC.region ?_
   refine WL.y (Y.assign rfl) rfl ?_
   refine WL.nil ?_
   refine At.then ?_
   refine WC.ret ?_
   obtain ⟨rfl, rfl⟩ := tup2 h
   have hs38 : Stp [3] (Lg.OB b0 3 (Lg.O0 A)) w O14 wd35 := (Stp.trans (Stp.up hst16 rfl) (Stp.up hst36 rfl))
   have hf39 := hf11.mono (imm_st hst16 rfl rfl)
   have hf40 := hf39.mono (imm_st hst36 rfl rfl)
   exact At.res (.inl rfl) rfl (.tmp rfl .nil) ⟨v0_0, rfl, (Stp.modL hs38 sB1 rfl rfl), (Sl.outI hf40 hs38 (lowB low0 rfl rfl) (aB O0_A rfl)), hb37.blk⟩
theorem c_vary_wide {A : Nat → Prop} {v0_0 : Value} {a0 : bitio_Reader} {b0 : Nat} {a1 : Int} {w : World} (hs0_0 : Sl Rep.b w A v0_0 a0.b) (hb0 : w.heap[b0]? = some (.cells (List.toArray [v0_0, vi a0.n, vi a0.at_]) 107 (0, 0))) (hm0 : A b0) {r0 : UInt64} (h : vary_wide a0 a1 = some r0) : Rets Try.prog 112 [Value.pointer (some ⟨b0, 0, none⟩), vi a1] w (fun v w' => v = vu r0 ∧ Ext w w') := by
 unfold vary_wide at h
 refine Rets.enter Try.func112 rfl rfl ?_
 have hf11 : Sl Rep.b w (imm (Lg.O0 A)) v0_0 a0.b := (Sl.start hs0_0)
 have hb12 : Blk 0 (Lg.O0 A) w b0 107 [v0_0, vi a0.n, vi a0.at_] := ⟨(if_pos hm0), hb0⟩
 refine (show WC _ _ _ _ [(0, Value.pointer (some ⟨b0, 0, none⟩)), (1, vi a1)] _ from ?_)
 refine WC.seq ?_
 refine WC.region ?_
 refine WL.y (Y.assign (v := vu 0) rfl) rfl ?_
 refine WL.nil ?_
 refine At.then ?_
 refine WC.seq ?_
 refine WC.region ?_
 refine WL.y (Y.move rfl) rfl ?_
 obtain ⟨⟨r13, r14⟩, hp15, h⟩ := bnd h
 refine WL.call (vals := [Value.pointer (some ⟨b0, 0, none⟩), vi 64]) kok110 rfl rfl (c_bitio_Reader_Look (A := fun _ => True) (a0 := a0) (Sl.all hf11) hb12.blk trivial hp15) ?_
 rintro vr18 wd17 ⟨rfl, hm16⟩
 obtain ⟨O19, hold20, hnew21, hst22⟩ := adoptE (Lg.O0 A) (fun k => 1) hm16
 refine WL.y (Y.move rfl) rfl ?_
 refine WL.y (Y.extract rfl rfl) rfl ?_
 refine WL.y (Y.extract rfl rfl) rfl ?_
 refine WL.y (Y.assign rfl) rfl ?_
 refine WL.y (Y.assign rfl) rfl ?_
 refine WL.nil ?_
 refine At.then ?_
 refine WC.seq ?_
 refine WC.region ?_
 refine WL.y (Y.move rfl) rfl ?_
 refine WL.y (Y.nilCheck rfl) rfl ?_
 have hf23 := hb12.st hst22 rfl
 refine WL.y (Y.loadAg ty107 rfl rfl (hf23.cells 0 [v0_0, vi a0.n, vi a0.at_] rfl) rfl) rfl ?_
 refine WL.alloc (O := O19) 11 [Value.slice none 0 0, vi 0, vi 0] ty107 rfl rfl ?_
 intro p25 O26 wd27 hst28 hb24
 have hf29 := hf11.mono (imm_st hst22 rfl rfl)
 have hf30 := hf29.mono (imm_st hst28 rfl rfl)
 have hh34 := h
 obtain ⟨p31, m32, c33, rfl⟩ := hf30.shape
 have h := hh34
 refine WL.store (v := Value.agg (List.toArray [(Value.slice p31 m32 c33), vi a0.n, vi a0.at_])) (cells' := [(Value.slice p31 m32 c33), vi a0.n, vi a0.at_]) ty107 rfl rfl hb24 rfl (Nat.le_of_ble_eq_true rfl) rfl rfl ?_
 intro wd35 hst36 hb37
 refine WL.nil ?_
 refine At.then ?_
 refine WC.seq ?_
 refine WC.region ?_
 have hf38 := hf30.mono (imm_st hst36 rfl rfl)
 obtain ⟨⟨r39, r40⟩, hp41, h⟩ := bnd h
 refine WL.call (vals := [Value.pointer (some ⟨p25, 0, none⟩), vi 64]) kok88 rfl rfl (c_bitio_Reader_Skip (A := imm O26) (a0 := a0) hf38 hb37.blk (fun k hk => imm_ne hb37.lab rfl k hk) hp41) ?_
 rintro vr47 wd46 ⟨z42, rfl, hm45, f43, f44⟩
 obtain ⟨O48, hold49, hnew50, hst51⟩ := adopt O26 (fun k => 1) [11] hm45 (memB hb37.lab rfl)
 have hf52 : Sl Rep.b wd46 (imm O48) z42 r40.b := Sl.adoptI (O := O26) f43 (fun _ hk => hk) (fun _ _ => Nat.le_refl _) hold49 hnew50
 have hb53 : Blk 11 O48 wd46 p25 107 [z42, vi r40.n, vi r40.at_] := Blk.adopt hb37 hold49 f44
 refine WL.nil ?_
 refine At.then ?_
 refine WC.seq ?_
 refine WC.region ?_
 refine WL.y (Y.move rfl) rfl ?_
 obtain ⟨⟨r54, r55⟩, hp56, h⟩ := bnd h
 refine WL.call (vals := [Value.pointer (some ⟨p25, 0, none⟩), vi a1]) kok110 rfl rfl (c_bitio_Reader_Look (A := fun _ => True) (a0 := r40) (Sl.all hf52) hb53.blk trivial hp56) ?_
 rintro vr59 wd58 ⟨rfl, hm57⟩
 obtain ⟨O60, hold61, hnew62, hst63⟩ := adoptE O48 (fun k => 1) hm57
 refine WL.y (Y.move rfl) rfl ?_
 refine WL.y (Y.extract rfl rfl) rfl ?_
 refine WL.y (Y.extract rfl rfl) rfl ?_
 refine WL.y (Y.assign rfl) rfl ?_
 refine WL.y (Y.assign rfl) rfl ?_
 refine WL.nil ?_
 refine At.then ?_
 refine WC.seq ?_
 refine WC.region ?_
 refine WL.y (Y.move rfl) rfl ?_
 refine WL.y (Y.move rfl) rfl ?_
 refine WL.y (Y.conv_iu ty3.u ty82.u rfl) rfl ?_
 refine WL.y (Y.shl_uu rfl rfl) rfl ?_
 refine WL.y (Y.move rfl) rfl ?_
 refine WL.y (Y.or_u rfl rfl) rfl ?_
 obtain ⟨t64, ht64, h⟩ := lt1 h
 refine WL.yE (Y.assign rfl) (congrArg vu ht64.symm) rfl ?_
 refine WL.nil ?_
 refine At.then ?_
 refine WC.ret ?_
 obtain rfl := some1 h
 have hs65 : Stp [11] (Lg.O0 A) w O60 wd58 := (Stp.trans (Stp.up hst22 rfl) (Stp.trans (Stp.up hst28 rfl) (Stp.trans (Stp.up hst36 rfl) (Stp.trans (Stp.up hst51 rfl) (Stp.up hst63 rfl)))))
 exact At.res (.inl rfl) rfl (.tmp rfl .nil) ⟨rfl, (Stp.ext hs65 rfl rfl)⟩
theorem c_vary_Get {A : Nat → Prop} {v0_0 : Value} {a0 : bitio_Reader} {b0 : Nat} {w : World} (hs0_0 : Sl Rep.b w A v0_0 a0.b) (hb0 : w.heap[b0]? = some (.cells (List.toArray [v0_0, vi a0.n, vi a0.at_]) 107 (0, 0))) (hA : ∀ k, A k → k ≠ b0) {r0 : UInt64} {r1 : Int} {q0 : bitio_Reader} (h : vary_Get a0 = some (r0, r1, q0)) : Rets Try.prog 106 [Value.pointer (some ⟨b0, 0, none⟩)] w (fun v w' => ∃ (z0_0 : Value), v = Value.tuple (List.toArray [vu r0, vi r1]) ∧ Mod (fun k => k = b0) w w' ∧ Sl Rep.b w' (fun k => A k ∨ w.heap.size ≤ k) z0_0 q0.b ∧ w'.heap[b0]? = some (.cells (List.toArray [z0_0, vi q0.n, vi q0.at_]) 107 (0, 0))) := by
 unfold vary_Get at h
 refine Rets.enter Try.func106 rfl rfl ?_
 have hf11 : Sl Rep.b w (imm (Lg.OB b0 3 (Lg.O0 A))) v0_0 a0.b := (Sl.OB (Sl.start hs0_0) (fun k hk => (hA k (O0_A k hk))))
 have hb12 : Blk 3 (Lg.OB b0 3 (Lg.O0 A)) w b0 107 [v0_0, vi a0.n, vi a0.at_] := ⟨(if_pos rfl), hb0⟩
 refine (show WC _ _ _ _ [(0, Value.pointer (some ⟨b0, 0, none⟩))] _ from ?_)
 refine WC.seq ?_
 refine WC.region ?_
 refine WL.y (Y.assign (v := vu 0) rfl) rfl ?_
 refine WL.y (Y.assign rfl) rfl ?_
 refine WL.nil ?_
 refine At.then ?_
 refine WC.seq ?_
 refine WC.region ?_
 refine WL.y (Y.move rfl) rfl ?_
 obtain ⟨⟨r13, r14⟩, hp15, h⟩ := bnd h
 refine WL.call (vals := [Value.pointer (some ⟨b0, 0, none⟩), vi 2]) kok110 rfl rfl (c_bitio_Reader_Look (A := fun _ => True) (a0 := a0) (Sl.all hf11) hb12.blk trivial hp15) ?_
 rintro vr18 wd17 ⟨rfl, hm16⟩
 obtain ⟨O19, hold20, hnew21, hst22⟩ := adoptE (Lg.OB b0 3 (Lg.O0 A)) (fun k => 1) hm16
 refine WL.y (Y.move rfl) rfl ?_
 refine WL.y (Y.extract rfl rfl) rfl ?_
 refine WL.y (Y.extract rfl rfl) rfl ?_
 refine WL.y (Y.assign rfl) rfl ?_
 refine WL.y (Y.assign rfl) rfl ?_
 refine WL.nil ?_
 refine At.then ?_
 refine WC.seq ?_
 refine WC.seq ?_
 refine WC.region ?_
 refine WL.y (Y.move rfl) rfl ?_
 refine WL.y (Y.not rfl) rfl ?_
 refine WL.nil ?_
 refine At.then ?_
 rcases cnd h with ⟨hc23, h⟩ | ⟨hc23, h⟩
 ·refine WC.condT' rfl hc23 ?_
  refine WC.seq ?_
  refine WC.region ?_
  refine WL.y (Y.assign (v := vu 0) rfl) rfl ?_
  refine WL.y (Y.assign rfl) rfl ?_
  refine WL.nil ?_
  refine At.then ?_
  refine WC.ret ?_
  refine At.thenR ?_
  obtain ⟨rfl, rfl, rfl⟩ := tup3 h
  have hs24 : Stp [] (Lg.OB b0 3 (Lg.O0 A)) w O19 wd17 := (Stp.up hst22 rfl)
  have hf25 := hb12.st hst22 rfl
  have hf26 := hf11.mono (imm_st hst22 rfl rfl)
  exact At.res (.inl rfl) rfl (.tmp rfl (.tmp rfl .nil)) ⟨v0_0, rfl, (Stp.modL hs24 sB1 rfl rfl), (Sl.outI hf26 hs24 (lowB low0 rfl rfl) (aB O0_A rfl)), hf25.blk⟩
 ·refine WC.condF' rfl hc23 ?_
  refine WC.skip ?_
  refine At.then ?_
  refine WC.seq ?_
  refine WC.region ?_
  obtain ⟨r27, hp28, h⟩ := bnd h
  refine WL.call (vals := []) kok97 rfl rfl (c_vary_sizes hp28) ?_
  rintro vr34 wd33 ⟨cs29, rfl, hm32, f30, f31⟩
  obtain ⟨O35, hold36, hnew37, hst38⟩ := adoptE O19 (fun k => 1) hm32
  have hf39 := Rows'.adoptF f30 (fun k hk => ⟨hk, rfl⟩) hnew37
  refine WL.y (Y.move rfl) rfl ?_
  obtain ⟨e40, he40, h⟩ := bnd h
  obtain ⟨cs41, hcs42, hok43⟩ := arrAt (R := Rep.i) (w := wd33) (A := imm O35) (cells := cs29) hf39 he40
  obtain rfl := hok43
  replace hcs42 : _ = [vi e40] := hcs42
  refine WL.y (Y.indexArrSc ty125 ty3 rfl rfl hcs42 he40 f31) rfl ?_
  refine WL.y (Y.assign rfl) rfl ?_
  refine WL.nil ?_
  refine At.then ?_
  refine WC.seq ?_
  refine WC.seq ?_
  refine WC.region ?_
  refine WL.y (Y.move rfl) rfl ?_
  refine WL.y (Y.add_i rfl rfl) rfl ?_
  refine WL.y (Y.move rfl) rfl ?_
  have hf44 := hb12.st hst22 rfl
  have hf45 := hf44.st hst38 rfl
  have hf46 := hf11.mono (imm_st hst22 rfl rfl)
  have hf47 := hf46.mono (imm_st hst38 rfl rfl)
  obtain ⟨r48, hp49, h⟩ := bnd h
  refine WL.call (vals := [Value.pointer (some ⟨b0, 0, none⟩)]) kok56 rfl rfl (c_bitio_Reader_Left (A := fun _ => True) (a0 := a0) (Sl.all hf47) hf45.blk trivial hp49) ?_
  rintro vr52 wd51 ⟨rfl, hm50⟩
  obtain ⟨O53, hold54, hnew55, hst56⟩ := adoptE O35 (fun k => 1) hm50
  refine WL.y (Y.gtr_i rfl rfl) rfl ?_
  refine WL.nil ?_
  refine At.then ?_
  rcases cnd h with ⟨hc57, h⟩ | ⟨hc57, h⟩
  ·refine WC.condT' rfl hc57 ?_
   refine WC.seq ?_
   refine WC.region ?_
   refine WL.y (Y.assign (v := vu 0) rfl) rfl ?_
   refine WL.y (Y.assign rfl) rfl ?_
   refine WL.nil ?_
   refine At.then ?_
   refine WC.ret ?_
   refine At.thenR ?_
   obtain ⟨rfl, rfl, rfl⟩ := tup3 h
   have hs58 : Stp [] (Lg.OB b0 3 (Lg.O0 A)) w O53 wd51 := (Stp.trans (Stp.up hst22 rfl) (Stp.trans (Stp.up hst38 rfl) (Stp.up hst56 rfl)))
   have hf59 := hf45.st hst56 rfl
   have hf60 := hf47.mono (imm_st hst56 rfl rfl)
   exact At.res (.inl rfl) rfl (.tmp rfl (.tmp rfl .nil)) ⟨v0_0, rfl, (Stp.modL hs58 sB1 rfl rfl), (Sl.outI hf60 hs58 (lowB low0 rfl rfl) (aB O0_A rfl)), hf59.blk⟩
  ·refine WC.condF' rfl hc57 ?_
   refine WC.skip ?_
   refine At.then ?_
   refine WC.seq ?_
   refine WC.region ?_
   refine WL.y (Y.move rfl) rfl ?_
   refine WL.y (Y.move rfl) rfl ?_
   refine WL.y (Y.add_i rfl rfl) rfl ?_
   refine WL.y (Y.min_i rfl rfl) rfl ?_
   have hf61 := hf45.st hst56 rfl
   have hf62 := hf47.mono (imm_st hst56 rfl rfl)
   obtain ⟨⟨r63, r64⟩, hp65, h⟩ := bnd h
   refine WL.call (vals := [Value.pointer (some ⟨b0, 0, none⟩), vi (min (w64 (2 + e40)) 64)]) kok110 rfl rfl (c_bitio_Reader_Look (A := fun _ => True) (a0 := a0) (Sl.all hf62) hf61.blk trivial hp65) ?_
   rintro vr68 wd67 ⟨rfl, hm66⟩
   obtain ⟨O69, hold70, hnew71, hst72⟩ := adoptE O53 (fun k => 1) hm66
   refine WL.y (Y.move rfl) rfl ?_
   refine WL.y (Y.extract rfl rfl) rfl ?_
   refine WL.y (Y.extract rfl rfl) rfl ?_
   refine WL.y (Y.assign rfl) rfl ?_
   refine WL.y (Y.assign rfl) rfl ?_
   refine WL.nil ?_
   refine At.then ?_
   refine WC.seq ?_
   obtain ⟨p77, h, hk78⟩ := bnd h
   refine WC.join (σ := (UInt64 × Own)) (fun x w' => x.1 = p77 ∧ Stp [] O69 wd67 x.2 w') (fun x => [(0, Value.pointer (some ⟨b0, 0, none⟩)), (4, vu r13), (6, vi e40), (7, vu x.1)]) ?_ ?_
   ·refine WC.seq ?_
    refine WC.region ?_
    refine WL.y (Y.move rfl) rfl ?_
    refine WL.y (Y.lss_i rfl rfl) rfl ?_
    refine WL.nil ?_
    refine At.then ?_
    rcases cnd h with ⟨hc79, h⟩ | ⟨hc79, h⟩
    ·refine WC.condT' rfl hc79 ?_
     refine WC.region ?_
     refine WL.y (Y.move rfl) rfl ?_
     refine WL.y (Y.move rfl) rfl ?_
     refine WL.y (Y.conv_iu ty3.u ty82.u rfl) rfl ?_
     refine WL.y (Y.shl_uu (a := 1) rfl rfl) rfl ?_
     refine WL.y (Y.sub_u (b := 1) rfl rfl) rfl ?_
     refine WL.y (Y.and_u rfl rfl) rfl ?_
     obtain ⟨v80, hv80, h⟩ := lt1 h
     refine WL.yE (Y.assign rfl) (congrArg vu hv80.symm) rfl ?_
     refine WL.nil ?_
     exact At.join (σ := (UInt64 × Own)) (v80, O69) ⟨some1 h, (Stp.refl _ _ _)⟩ (.cons rfl (.cons rfl (.cons rfl (.cons rfl .nil))))
    ·refine WC.condF' rfl hc79 ?_
     refine WC.region ?_
     refine WL.y (Y.move rfl) rfl ?_
     have hf81 := hf61.st hst72 rfl
     have hf82 := hf62.mono (imm_st hst72 rfl rfl)
     obtain ⟨r83, hp84, h⟩ := bnd h
     refine WL.call (vals := [Value.pointer (some ⟨b0, 0, none⟩), vi 2]) kok112 rfl rfl (c_vary_wide (A := fun _ => True) (a0 := a0) (Sl.all hf82) hf81.blk trivial hp84) ?_
     rintro vr87 wd86 ⟨rfl, hm85⟩
     obtain ⟨O88, hold89, hnew90, hst91⟩ := adoptE O69 (fun k => 1) hm85
     refine WL.y (Y.assign rfl) rfl ?_
     refine WL.nil ?_
     exact At.join (σ := (UInt64 × Own)) (r83, O88) ⟨some1 h, (Stp.up hst91 rfl)⟩ (.cons rfl (.cons rfl (.cons rfl (.cons rfl .nil))))
   ·rintro ⟨v73, O74⟩ wd75 ⟨rfl, hst76⟩
    replace h := hk78
    try dsimp only at h hst76
    refine (show At _ _ _ [(0, Value.pointer (some ⟨b0, 0, none⟩)), (4, vu r13), (6, vi e40), (7, vu v73)] _ from ?_)
    refine At.then ?_
    refine WC.seq ?_
    refine WC.seq ?_
    refine WC.region ?_
    refine WL.y (Y.move rfl) rfl ?_
    obtain ⟨r92, hp93, h⟩ := bnd h
    refine WL.call (vals := [vu v73]) kok96 rfl rfl (c_vary_class hp93) ?_
    rintro vr96 wd95 ⟨rfl, hm94⟩
    obtain ⟨O97, hold98, hnew99, hst100⟩ := adoptE O74 (fun k => 1) hm94
    refine WL.y (Y.move rfl) rfl ?_
    refine WL.y (Y.conv_ui ty22.u ty3.u rfl) rfl ?_
    refine WL.y (Y.neq_i rfl rfl) rfl ?_
    refine WL.nil ?_
    refine At.then ?_
    rcases cnd h with ⟨hc101, h⟩ | ⟨hc101, h⟩
    ·refine WC.condT' rfl hc101 ?_
     refine WC.seq ?_
     refine WC.region ?_
     refine WL.y (Y.assign (v := vu 0) rfl) rfl ?_
     refine WL.y (Y.assign rfl) rfl ?_
     refine WL.nil ?_
     refine At.then ?_
     refine WC.ret ?_
     refine At.thenR ?_
     obtain ⟨rfl, rfl, rfl⟩ := tup3 h
     have hs102 : Stp [] (Lg.OB b0 3 (Lg.O0 A)) w O97 wd95 := (Stp.trans (Stp.up hst22 rfl) (Stp.trans (Stp.up hst38 rfl) (Stp.trans (Stp.up hst56 rfl) (Stp.trans (Stp.up hst72 rfl) (Stp.trans (Stp.up hst76 rfl) (Stp.up hst100 rfl))))))
     have hf103 := hf61.st hst72 rfl
     have hf104 := hf103.st hst76 rfl
     have hf105 := hf104.st hst100 rfl
     have hf106 := hf62.mono (imm_st hst72 rfl rfl)
     have hf107 := hf106.mono (imm_st hst76 rfl rfl)
     have hf108 := hf107.mono (imm_st hst100 rfl rfl)
     exact At.res (.inl rfl) rfl (.tmp rfl (.tmp rfl .nil)) ⟨v0_0, rfl, (Stp.modL hs102 sB1 rfl rfl), (Sl.outI hf108 hs102 (lowB low0 rfl rfl) (aB O0_A rfl)), hf105.blk⟩
    ·refine WC.condF' rfl hc101 ?_
     refine WC.skip ?_
     refine At.then ?_
     refine WC.seq ?_
     refine WC.region ?_
     refine WL.y (Y.move rfl) rfl ?_
     refine WL.y (Y.move rfl) rfl ?_
     refine WL.y (Y.add_i rfl rfl) rfl ?_
     have hf109 := hf61.st hst72 rfl
     have hf110 := hf109.st hst76 rfl
     have hf111 := hf110.st hst100 rfl
     have hf112 := hf62.mono (imm_st hst72 rfl rfl)
     have hf113 := hf112.mono (imm_st hst76 rfl rfl)
     have hf114 := hf113.mono (imm_st hst100 rfl rfl)
     obtain ⟨⟨r115, r116⟩, hp117, h⟩ := bnd h
     refine WL.call (vals := [Value.pointer (some ⟨b0, 0, none⟩), vi (w64 (2 + e40))]) kok88 rfl rfl (c_bitio_Reader_Skip (A := imm O97) (a0 := a0) hf114 hf111.blk (fun k hk => imm_ne hf111.lab rfl k hk) hp117) ?_
     rintro vr123 wd122 ⟨z118, rfl, hm121, f119, f120⟩
     obtain ⟨O124, hold125, hnew126, hst127⟩ := adopt O97 (fun k => 1) [3] hm121 (memB hf111.lab rfl)
     have hf128 : Sl Rep.b wd122 (imm O124) z118 r116.b := Sl.adoptI (O := O97) f119 (fun _ hk => hk) (fun _ _ => Nat.le_refl _) hold125 hnew126
     have hb129 : Blk 3 O124 wd122 b0 107 [z118, vi r116.n, vi r116.at_] := Blk.adopt hf111 hold125 f120
     refine WL.nil ?_
     refine At.then ?_
     refine WC.seq ?_
     refine WC.region ?_
     refine WL.y (Y.move rfl) rfl ?_
     refine WL.y (Y.assign rfl) rfl ?_
     refine WL.y (Y.assign rfl) rfl ?_
     refine WL.nil ?_
     refine At.then ?_
     refine WC.ret ?_
     obtain ⟨rfl, rfl, rfl⟩ := tup3 h
     have hs130 : Stp [3] (Lg.OB b0 3 (Lg.O0 A)) w O124 wd122 := (Stp.trans (Stp.up hst22 rfl) (Stp.trans (Stp.up hst38 rfl) (Stp.trans (Stp.up hst56 rfl) (Stp.trans (Stp.up hst72 rfl) (Stp.trans (Stp.up hst76 rfl) (Stp.trans (Stp.up hst100 rfl) (Stp.up hst127 rfl)))))))
     exact At.res (.inl rfl) rfl (.tmp rfl (.tmp rfl .nil)) ⟨z118, rfl, (Stp.modL hs130 sB1 rfl rfl), (Sl.outI hf128 hs130 (lowB low0 rfl rfl) (aB O0_A rfl)), hb129.blk⟩
theorem c_pack_Zag {a0 : UInt64} {w : World} {r0 : Int} (h : pack_Zag a0 = some r0) : Rets Try.prog 111 [vu a0] w (fun v w' => v = vi r0 ∧ Ext w w') := by
 unfold pack_Zag at h
 refine Rets.enter Try.func111 rfl rfl ?_
 refine (show WC _ _ _ _ [(0, vu a0)] _ from ?_)
 refine WC.seq ?_
 refine WC.region ?_
 refine WL.y (Y.assign rfl) rfl ?_
 refine WL.nil ?_
 refine At.then ?_
 refine WC.seq ?_
 refine WC.region ?_
 refine WL.y (Y.move rfl) rfl ?_
 refine WL.y (Y.shr_uu (m := 1) rfl rfl) rfl ?_
 refine WL.y (Y.conv_ui ty22.u ty3.u rfl) rfl ?_
 refine WL.y (Y.move rfl) rfl ?_
 refine WL.y (Y.and_u (b := 1) rfl rfl) rfl ?_
 refine WL.y (Y.conv_ui ty22.u ty3.u rfl) rfl ?_
 refine WL.y (Y.neg_i rfl) rfl ?_
 refine WL.y (Y.xor_i rfl rfl) rfl ?_
 obtain ⟨t11, ht11, h⟩ := lt1 h
 refine WL.yE (Y.assign rfl) (congrArg vi ht11.symm) rfl ?_
 refine WL.nil ?_
 refine At.then ?_
 refine WC.ret ?_
 obtain rfl := some1 h
 have hs12 : Stp [] (Lg.O0 (fun _ => False)) w (Lg.O0 (fun _ => False)) w := (Stp.refl _ _ _)
 exact At.res (.inl rfl) rfl (.tmp rfl .nil) ⟨rfl, (Stp.ext hs12 rfl rfl)⟩
theorem c_vary_GetInt {A : Nat → Prop} {v0_0 : Value} {a0 : bitio_Reader} {b0 : Nat} {w : World} (hs0_0 : Sl Rep.b w A v0_0 a0.b) (hb0 : w.heap[b0]? = some (.cells (List.toArray [v0_0, vi a0.n, vi a0.at_]) 107 (0, 0))) (hA : ∀ k, A k → k ≠ b0) {r0 : Int} {r1 : Int} {q0 : bitio_Reader} (h : vary_GetInt a0 = some (r0, r1, q0)) : Rets Try.prog 105 [Value.pointer (some ⟨b0, 0, none⟩)] w (fun v w' => ∃ (z0_0 : Value), v = Value.tuple (List.toArray [vi r0, vi r1]) ∧ Mod (fun k => k = b0) w w' ∧ Sl Rep.b w' (fun k => A k ∨ w.heap.size ≤ k) z0_0 q0.b ∧ w'.heap[b0]? = some (.cells (List.toArray [z0_0, vi q0.n, vi q0.at_]) 107 (0, 0))) := by
 unfold vary_GetInt at h
 refine Rets.enter Try.func105 rfl rfl ?_
 have hf11 : Sl Rep.b w (imm (Lg.OB b0 3 (Lg.O0 A))) v0_0 a0.b := (Sl.OB (Sl.start hs0_0) (fun k hk => (hA k (O0_A k hk))))
 have hb12 : Blk 3 (Lg.OB b0 3 (Lg.O0 A)) w b0 107 [v0_0, vi a0.n, vi a0.at_] := ⟨(if_pos rfl), hb0⟩
 refine (show WC _ _ _ _ [(0, Value.pointer (some ⟨b0, 0, none⟩))] _ from ?_)
 refine WC.seq ?_
 refine WC.region ?_
 refine WL.y (Y.assign rfl) rfl ?_
 refine WL.y (Y.assign rfl) rfl ?_
 refine WL.nil ?_
 refine At.then ?_
 refine WC.seq ?_
 refine WC.region ?_
 refine WL.y (Y.move rfl) rfl ?_
 obtain ⟨⟨r13, r14, r15⟩, hp16, h⟩ := bnd h
 refine WL.call (vals := [Value.pointer (some ⟨b0, 0, none⟩)]) kok106 rfl rfl (c_vary_Get (A := imm (Lg.OB b0 3 (Lg.O0 A))) (a0 := a0) hf11 hb12.blk (fun k hk => imm_ne hb12.lab rfl k hk) hp16) ?_
 rintro vr22 wd21 ⟨z17, rfl, hm20, f18, f19⟩
 obtain ⟨O23, hold24, hnew25, hst26⟩ := adopt (Lg.OB b0 3 (Lg.O0 A)) (fun k => 1) [3] hm20 (memB hb12.lab rfl)
 have hf27 : Sl Rep.b wd21 (imm O23) z17 r15.b := Sl.adoptI (O := (Lg.OB b0 3 (Lg.O0 A))) f18 (fun _ hk => hk) (fun _ _ => Nat.le_refl _) hold24 hnew25
 have hb28 : Blk 3 O23 wd21 b0 107 [z17, vi r15.n, vi r15.at_] := Blk.adopt hb12 hold24 f19
 refine WL.y (Y.move rfl) rfl ?_
 refine WL.y (Y.extract rfl rfl) rfl ?_
 refine WL.y (Y.extract rfl rfl) rfl ?_
 refine WL.y (Y.assign rfl) rfl ?_
 refine WL.y (Y.assign rfl) rfl ?_
 refine WL.nil ?_
 refine At.then ?_
 refine WC.seq ?_
 refine WC.region ?_
 refine WL.y (Y.move rfl) rfl ?_
 obtain ⟨r29, hp30, h⟩ := bnd h
 refine WL.call (vals := [vu r13]) kok111 rfl rfl (c_pack_Zag hp30) ?_
 rintro vr33 wd32 ⟨rfl, hm31⟩
 obtain ⟨O34, hold35, hnew36, hst37⟩ := adoptE O23 (fun k => 1) hm31
 refine WL.y (Y.move rfl) rfl ?_
 refine WL.y (Y.assign rfl) rfl ?_
 refine WL.y (Y.assign rfl) rfl ?_
 refine WL.nil ?_
 refine At.then ?_
 refine WC.ret ?_
 obtain ⟨rfl, rfl, rfl⟩ := tup3 h
 have hs38 : Stp [3] (Lg.OB b0 3 (Lg.O0 A)) w O34 wd32 := (Stp.trans (Stp.up hst26 rfl) (Stp.up hst37 rfl))
 have hf39 := hb28.st hst37 rfl
 have hf40 := hf27.mono (imm_st hst37 rfl rfl)
 exact At.res (.inl rfl) rfl (.tmp rfl (.tmp rfl .nil)) ⟨z17, rfl, (Stp.modL hs38 sB1 rfl rfl), (Sl.outI hf40 hs38 (lowB low0 rfl rfl) (aB O0_A rfl)), hf39.blk⟩
end Go.Lg
