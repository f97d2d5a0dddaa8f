/- The walks of XorTakes and of what it calls, printed by gen.py. -/
import Derived.Test.YtddfmahlbbbljaaDoorLgXorWXorTakesx0
set_option linter.unusedVariables false
namespace Go.Lg
open Go Go.Proofs
set_option maxRecDepth 100000
set_option maxHeartbeats 4000000
theorem c_xor_Row_Get {A : Nat → Prop} {a0 : xor_Row} {b0 : Nat} {v1_0 : Value} {a1 : bitio_Reader} {b1 : Nat} {w : World} (hb0 : w.heap[b0]? = some (.cells (List.toArray [vi a0.n, vu a0.last, vi a0.win.ahead, vi a0.win.size]) 62 (0, 0))) (hs1_0 : Sl Rep.b w A v1_0 a1.b) (hb1 : w.heap[b1]? = some (.cells (List.toArray [v1_0, vi a1.n, vi a1.at_]) 58 (0, 0))) (hG0 : CellsAt w 0 0 [vi 0, vi 0]) (hGA0 : A 0) (hG1 : CellsAt w 1 0 (gdat1.map vb)) (hGA1 : A 1) (hne0_1 : b0 ≠ b1) (hA : ∀ k, A k → k ≠ b0 ∧ k ≠ b1) {r0 : UInt64} {r1 : Int} {q0 : xor_Row} {q1 : bitio_Reader} (h : xor_Row_Get a0 a1 = some (r0, r1, q0, q1)) : Rets Tryd.prog 13 [Value.pointer (some ⟨b0, 0, none⟩), Value.pointer (some ⟨b1, 0, none⟩)] w (fun v w' => ∃ (z1_0 : Value), v = Value.tuple (List.toArray [vu r0, vi r1]) ∧ Mod (fun k => k = b0 ∨ k = b1) w w' ∧ w'.heap[b0]? = some (.cells (List.toArray [vi q0.n, vu q0.last, vi q0.win.ahead, vi q0.win.size]) 62 (0, 0)) ∧ Sl Rep.b w' (fun k => A k ∨ w.heap.size ≤ k) z1_0 q1.b ∧ w'.heap[b1]? = some (.cells (List.toArray [z1_0, vi q1.n, vi q1.at_]) 58 (0, 0))) := by
 unfold xor_Row_Get at h
 refine Rets.enter Tryd.func13 rfl rfl ?_
 have hb11 : Blk 3 (Lg.OB b0 3 (Lg.OB b1 4 (Lg.O0 A))) w b0 62 [vi a0.n, vu a0.last, vi a0.win.ahead, vi a0.win.size] := ⟨(if_pos rfl), hb0⟩
 have hf12 : Sl Rep.b w (imm (Lg.OB b0 3 (Lg.OB b1 4 (Lg.O0 A)))) v1_0 a1.b := (Sl.OB (Sl.OB (Sl.start hs1_0) (fun k hk => (hA k (O0_A k hk)).2)) (fun k hk => (hA k ((aB O0_A rfl) k hk)).1))
 have hb13 : Blk 4 (Lg.OB b0 3 (Lg.OB b1 4 (Lg.O0 A))) w b1 58 [v1_0, vi a1.n, vi a1.at_] := ⟨((if_neg (fun (e : b1 = b0) => hne0_1 e.symm)).trans (if_pos rfl)), hb1⟩
 have hG14 : CAt [0, 1] (Lg.OB b0 3 (Lg.OB b1 4 (Lg.O0 A))) w 0 0 [vi 0, vi 0] := CAt.glob hG0 ((if_neg (hA _ hGA0).1).trans ((if_neg (hA _ hGA0).2).trans (if_pos hGA0)))
 have hG15 : CAt [0, 1] (Lg.OB b0 3 (Lg.OB b1 4 (Lg.O0 A))) w 1 0 (gdat1.map vb) := CAt.glob hG1 ((if_neg (hA _ hGA1).1).trans ((if_neg (hA _ hGA1).2).trans (if_pos hGA1)))
 refine (show WC _ _ _ _ [(0, Value.pointer (some ⟨b0, 0, none⟩)), (1, Value.pointer (some ⟨b1, 0, none⟩))] _ from ?_)
 refine WC.seq ?_
 refine WC.region ?_
 refine WL.y (Y.assign (v := vu 0) rfl) rfl ?_
 refine WL.y (Y.assign rfl) rfl ?_
 refine WL.nil ?_
 refine At.then ?_
 refine WC.seq ?_
 refine WC.drawH [11, 12, 13, 14, 1001] [0, 1, 2, 3, 4, 5, 6, 7, 8] (Lg.OB b0 3 (Lg.OB b1 4 (Lg.O0 A))) 10 fmix rfl (by kernel_rfl) ?_
 intro wd16 hst17
 refine WD.y 0 rfl (by kernel_rfl) (fun _ _ _ => Y.move rfl) rfl ?_
 refine WD.y 1 rfl (by kernel_rfl) (fun _ _ _ => Y.nilCheck rfl) rfl ?_
 refine WD.y 2 rfl (by kernel_rfl) (fun wd25 O24 hst26 => have hf27 := hb11.st hst17 rfl; have hf28 := hf27.st hst26 rfl; Y.loadAg ty62 rfl rfl (hf28.cells 0 [vi a0.n, vu a0.last, vi a0.win.ahead, vi a0.win.size] rfl) rfl) rfl ?_
 refine WD.y 3 rfl (by kernel_rfl) (fun _ _ _ => Y.move rfl) rfl ?_
 refine WD.y 4 rfl (by kernel_rfl) (fun _ _ _ => Y.nilCheck rfl) rfl ?_
 refine WD.y 5 rfl (by kernel_rfl) (fun wd36 O35 hst37 => have hf38 := hb13.st hst17 rfl; have hf39 := hf38.st hst37 rfl; Y.loadAg ty58 rfl rfl (hf39.cells 0 [v1_0, vi a1.n, vi a1.at_] rfl) rfl) rfl ?_
 obtain ⟨p47, h, hk48⟩ := bnd h
 refine WD.join (σ := (Own × Nat × Nat)) (f' := 2) [7, 6, 5, 4, 3, 2, 1, 0] (fun x O' w' => () = p47 ∧ Stp [11, 12, 13, 14] (Lg.OB b0 3 (Lg.OB b1 4 (Lg.O0 A))) wd16 x.1 w' ∧ Blk 1001 x.1 w' x.2.1 62 [vi 0, vu 0, vi 0, vi 0] ∧ Blk 1002 x.1 w' x.2.2 58 [Value.slice none 0 0, vi 0, vi 0] ∧ x.1 = O') (fun x => [(0, Value.pointer (some ⟨b0, 0, none⟩)), (1, Value.pointer (some ⟨b1, 0, none⟩)), (6, Value.pointer (some ⟨x.2.1, 0, none⟩)), (7, Value.pointer (some ⟨x.2.2, 0, none⟩)), (12, Value.agg (List.toArray [vi a0.n, vu a0.last, vi a0.win.ahead, vi a0.win.size])), (15, Value.agg (List.toArray [v1_0, vi a1.n, vi a1.at_]))]) (fun hJ49 => ?_) ?_
 ·refine WD.heavy2 6 7 rfl rfl (by kernel_rfl) ?_ ?_
  ·refine WL.alloc (O := (Lg.OB b0 3 (Lg.OB b1 4 (Lg.O0 A)))) 11 [vi 0, vu 0, vi 0, vi 0] ty62 rfl rfl ?_
   intro p51 O52 wd53 hst54 hb50
   refine WL.nil ?_
   refine At.dq (Stp.up hst54 rfl) ?_
   refine WD.heavy 7 rfl (by kernel_rfl) ?_
   refine WL.alloc (O := O52) 12 [Value.slice none 0 0, vi 0, vi 0] ty58 rfl rfl ?_
   intro p56 O57 wd58 hst59 hb55
   refine WL.nil ?_
   refine At.dq (Stp.up hst59 rfl) ?_
   have hf60 := hb50.st hst59 rfl
   obtain ⟨O61, hst62, hb63⟩ := Blk.rlb 1001 rfl hf60
   have hf64 := hb55.st hst62 rfl
   obtain ⟨O65, hst66, hb67⟩ := Blk.rlb 1002 rfl hf64
   have hf68 := hb63.st hst66 rfl
   refine WD.own (Stp.trans (Stp.up hst62 rfl) (Stp.up hst66 rfl)) ?_
   refine WD.perm _ [7, 6, 5, 4, 3, 2, 1, 0] (by kernel_rfl) ?_
   exact hJ49 (O65, p51, p56) _ _ _ ⟨rfl, (Stp.trans (Stp.up hst54 rfl) (Stp.trans (Stp.up hst59 rfl) (Stp.trans (Stp.up hst62 rfl) (Stp.up hst66 rfl)))), hf68, hb67, rfl⟩ (.cons rfl (.cons rfl (.cons rfl (.cons rfl (.cons rfl (.cons rfl .nil))))))
  ·try simp only [Option.bind_assoc] at h
   try simp only [Option.bind_some] at h
   refine WL.alloc (O := (Lg.OB b0 3 (Lg.OB b1 4 (Lg.O0 A)))) 13 [Value.slice none 0 0, vi 0, vi 0] ty58 rfl rfl ?_
   intro p70 O71 wd72 hst73 hb69
   refine WL.nil ?_
   refine At.dq (Stp.up hst73 rfl) ?_
   refine WD.heavy 6 rfl (by kernel_rfl) ?_
   refine WL.alloc (O := O71) 14 [vi 0, vu 0, vi 0, vi 0] ty62 rfl rfl ?_
   intro p75 O76 wd77 hst78 hb74
   refine WL.nil ?_
   refine At.dq (Stp.up hst78 rfl) ?_
   obtain ⟨O79, hst80, hb81⟩ := Blk.rlb 1001 rfl hb74
   have hf82 := hb69.st hst78 rfl
   have hf83 := hf82.st hst80 rfl
   obtain ⟨O84, hst85, hb86⟩ := Blk.rlb 1002 rfl hf83
   have hf87 := hb81.st hst85 rfl
   refine WD.own (Stp.trans (Stp.up hst80 rfl) (Stp.up hst85 rfl)) ?_
   refine WD.perm _ [7, 6, 5, 4, 3, 2, 1, 0] (by kernel_rfl) ?_
   exact hJ49 (O84, p75, p70) _ _ _ ⟨rfl, (Stp.trans (Stp.up hst73 rfl) (Stp.trans (Stp.up hst78 rfl) (Stp.trans (Stp.up hst80 rfl) (Stp.up hst85 rfl)))), hf87, hb86, rfl⟩ (.cons rfl (.cons rfl (.cons rfl (.cons rfl (.cons rfl (.cons rfl .nil))))))
 ·rintro ⟨O44, b40, b42⟩ _ wd45 ⟨rfl, hst46, hb41, hb43, rfl⟩
  replace h := hk48
  try dsimp only at h hst46 hb41 hb43
  refine (show WD _ _ _ _ _ _ _ _ [(0, Value.pointer (some ⟨b0, 0, none⟩)), (1, Value.pointer (some ⟨b1, 0, none⟩)), (6, Value.pointer (some ⟨b40, 0, none⟩)), (7, Value.pointer (some ⟨b42, 0, none⟩)), (12, Value.agg (List.toArray [vi a0.n, vu a0.last, vi a0.win.ahead, vi a0.win.size])), (15, Value.agg (List.toArray [v1_0, vi a1.n, vi a1.at_]))] _ _ from ?_)
  refine WD.heavy 8 rfl (by kernel_rfl) ?_
  refine WL.store (v := Value.agg (List.toArray [vi a0.n, vu a0.last, vi a0.win.ahead, vi a0.win.size])) (cells' := [vi a0.n, vu a0.last, vi a0.win.ahead, vi a0.win.size]) ty62 rfl rfl hb41 rfl (Nat.le_of_ble_eq_true rfl) rfl rfl ?_
  intro wd88 hst89 hb90
  refine WL.nil ?_
  refine At.dq (Stp.up hst89 rfl) ?_
  refine WD.phase [1002] [0, 1, 2, 3, 4, 5, 6, 7, 8, 9] (by kernel_rfl) (by kernel_rfl) ?_
  refine WD.heavy 9 rfl (by kernel_rfl) ?_
  have hf91 := hf12.mono (imm_st hst17 rfl rfl)
  have hf92 := hf91.mono (imm_st hst46 rfl rfl)
  have hf93 := hf92.mono (imm_st hst89 rfl rfl)
  have hh97 := h
  obtain ⟨p94, m95, c96, rfl⟩ := hf93.shape
  have h := hh97
  have hf98 := hb43.st hst89 rfl
  refine WL.store (v := Value.agg (List.toArray [(Value.slice p94 m95 c96), vi a1.n, vi a1.at_])) (cells' := [(Value.slice p94 m95 c96), vi a1.n, vi a1.at_]) ty58 rfl rfl hf98 rfl (Nat.le_of_ble_eq_true rfl) rfl rfl ?_
  intro wd99 hst100 hb101
  refine WL.nil ?_
  refine At.dq (Stp.up hst100 rfl) ?_
  refine WD.done_ (by kernel_rfl) ?_
  refine At.then ?_
  refine WC.seq ?_
  refine WC.region ?_
  refine WL.alloc (O := O44) 15 [vi 0] ty29 rfl rfl ?_
  intro p103 O104 wd105 hst106 hb102
  refine WL.nil ?_
  refine At.then ?_
  refine WC.seq ?_
  refine WC.region ?_
  obtain ⟨p122, h, hk123⟩ := bnd h
  refine WL.callJ (vals := [Value.pointer (some ⟨b40, 0, none⟩), Value.pointer (some ⟨b42, 0, none⟩), Value.pointer (some ⟨p103, 0, none⟩)]) (σ := (Int × Int × List UInt8 × Int × Int × Int × UInt64 × Own × Value)) (fun x w' => (x.1, x.2.1, x.2.2.1, x.2.2.2.1, x.2.2.2.2.1, x.2.2.2.2.2.1, x.2.2.2.2.2.2.1) = p122 ∧ Stp [15, 16, 1001, 1002] O104 wd105 x.2.2.2.2.2.2.2.1 w' ∧ Blk 1001 x.2.2.2.2.2.2.2.1 w' b40 62 [vi a0.n, vu a0.last, vi x.1, vi x.2.1] ∧ Sl Rep.b w' (imm x.2.2.2.2.2.2.2.1) x.2.2.2.2.2.2.2.2 x.2.2.1 ∧ Blk 1002 x.2.2.2.2.2.2.2.1 w' b42 58 [x.2.2.2.2.2.2.2.2, vi x.2.2.2.1, vi x.2.2.2.2.1] ∧ Blk 15 x.2.2.2.2.2.2.2.1 w' p103 29 [vi x.2.2.2.2.2.1]) (fun x => vu x.2.2.2.2.2.2.1) kok28 rfl rfl ?_ ?_
  ·refine Rets.enter Tryd.func28 rfl rfl ?_
   refine (show WC _ _ _ _ [(0, Value.pointer (some ⟨b40, 0, none⟩)), (1, Value.pointer (some ⟨b42, 0, none⟩)), (2, Value.pointer (some ⟨p103, 0, none⟩))] _ from ?_)
   refine WC.seq ?_
   refine WC.region ?_
   refine WL.y (Y.assign (v := vu 0) rfl) rfl ?_
   refine WL.nil ?_
   refine At.then ?_
   refine WC.seq ?_
   refine WC.seq ?_
   refine WC.region ?_
   refine WL.y (Y.move rfl) rfl ?_
   refine WL.y (Y.nilCheck rfl) rfl ?_
   refine WL.y (Y.fieldAddr fo62_0 rfl) rfl ?_
   have hf124 := hb90.st hst100 rfl
   have hf125 := hf124.st hst106 rfl
   refine WL.y (Y.loadSc ty3 rfl rfl (hf125.cell 0 _ rfl)) rfl ?_
   refine WL.y (Y.eql_i rfl rfl) rfl ?_
   refine WL.nil ?_
   refine At.then ?_
   rcases cnd h with ⟨hc126, h⟩ | ⟨hc126, h⟩
   ·refine WC.condT' rfl hc126 ?_
    refine WC.seq ?_
    refine WC.region ?_
    refine WL.y (Y.move rfl) rfl ?_
    refine WL.y (Y.move rfl) rfl ?_
    obtain ⟨p139, h, hk140⟩ := bnd h
    refine WL.callJ (vals := [Value.pointer (some ⟨b42, 0, none⟩), Value.pointer (some ⟨p103, 0, none⟩), vi 64]) (σ := (List UInt8 × Int × Int × Int × UInt64 × Own × Value)) (fun x w' => (x.1, x.2.1, x.2.2.1, x.2.2.2.1, x.2.2.2.2.1) = p139 ∧ Stp [15, 1002] O104 wd105 x.2.2.2.2.2.1 w' ∧ Sl Rep.b w' (imm x.2.2.2.2.2.1) x.2.2.2.2.2.2 x.1 ∧ Blk 1002 x.2.2.2.2.2.1 w' b42 58 [x.2.2.2.2.2.2, vi x.2.1, vi x.2.2.1] ∧ Blk 15 x.2.2.2.2.2.1 w' p103 29 [vi x.2.2.2.1]) (fun x => vu x.2.2.2.2.1) kok38 rfl rfl ?_ ?_
    ·refine Rets.enter Tryd.func38 rfl rfl ?_
     refine (show WC _ _ _ _ [(0, Value.pointer (some ⟨b42, 0, none⟩)), (1, Value.pointer (some ⟨p103, 0, none⟩)), (2, vi 64)] _ from ?_)
     refine WC.seq ?_
     refine WC.region ?_
     refine WL.y (Y.assign (v := vu 0) rfl) rfl ?_
     refine WL.nil ?_
     refine At.then ?_
     refine WC.seq ?_
     refine WC.region ?_
     refine WL.y (Y.move rfl) rfl ?_
     refine WL.y (Y.move rfl) rfl ?_
     have hf141 := hb101.st hst106 rfl
     have hf142 := hf93.mono (imm_st hst100 rfl rfl)
     have hf143 := hf142.mono (imm_st hst106 rfl rfl)
     obtain ⟨⟨r144, r145, r146⟩, hp147, h⟩ := bnd h
     refine WL.call (vals := [Value.pointer (some ⟨b42, 0, none⟩), vi 64]) kok42 rfl rfl (c_bitio_Reader_Take (A := imm O104) (a0 := a1) hf143 hf141.blk (fun k hk => imm_ne hf141.lab rfl k hk) hp147) ?_
     rintro vr153 wd152 ⟨z148, rfl, hm151, f149, f150⟩
     obtain ⟨O154, hold155, hnew156, hst157⟩ := adopt O104 (fun k => 1) [1002] hm151 (memB hf141.lab rfl)
     have hf158 : Sl Rep.b wd152 (imm O154) z148 r146.b := Sl.adoptI (O := O104) f149 (fun _ hk => hk) (fun _ _ => Nat.le_refl _) hold155 hnew156
     have hb159 : Blk 1002 O154 wd152 b42 58 [z148, vi r146.n, vi r146.at_] := Blk.adopt hf141 hold155 f150
     refine WL.y (Y.move rfl) rfl ?_
     refine WL.y (Y.extract rfl rfl) rfl ?_
     refine WL.y (Y.extract rfl rfl) rfl ?_
     refine WL.y (Y.assign rfl) rfl ?_
     refine WL.y (Y.assign rfl) rfl ?_
     refine WL.nil ?_
     refine At.then ?_
     refine WC.seq ?_
     refine WC.seq ?_
     refine WC.region ?_
     refine WL.y (Y.move rfl) rfl ?_
     refine WL.y (Y.not rfl) rfl ?_
     refine WL.y (Y.move rfl) rfl ?_
     refine WL.cut 5 (σ := Unit) (fun _ w' => wd152 = w') (fun _ => [(1, Value.pointer (some ⟨p103, 0, none⟩)), (7, vu r144), (22, Value.bool ((!r145) && (decide (0 = 0))))]) ?_ ?_
     ·refine WL.part 17 rfl (fun hE160 => ?_) (fun hE160 => ?_)
      ·refine WL.ung rfl rfl ?_
       refine WL.y (Y.move rfl) rfl ?_
       refine WL.ung rfl rfl ?_
       refine WL.y (Y.nilCheck rfl) rfl ?_
       refine WL.ung rfl rfl ?_
       have hf161 := hb102.st hst157 rfl
       refine WL.y (Y.loadSc ty29 rfl rfl (hf161.cell 0 _ rfl)) rfl ?_
       refine WL.ung rfl rfl ?_
       refine WL.y (Y.eql_i rfl rfl) rfl ?_
       refine WL.y (Y.pick (b := true) rfl rfl) rfl ?_
       refine WL.ren (v' := Value.bool ((!r145) && (decide (0 = 0)))) 22 rfl (congrArg Value.bool (andT hE160)) ?_
       exact WL.nil (At.join () rfl (.cons rfl (.cons rfl (.cons rfl .nil))))
      ·refine WL.gS rfl rfl rfl rfl ?_
       refine WL.gS rfl rfl rfl rfl ?_
       refine WL.gS rfl rfl rfl rfl ?_
       refine WL.gS rfl rfl rfl rfl ?_
       refine WL.y (Y.pick (b := false) rfl rfl) rfl ?_
       refine WL.ren (v' := Value.bool ((!r145) && (decide (0 = 0)))) 22 rfl (congrArg Value.bool (andF hE160)) ?_
       exact WL.nil (At.join () rfl (.cons rfl (.cons rfl (.cons rfl .nil))))
     ·rintro _ _ rfl
      refine (show WL _ _ _ _ _ [(1, Value.pointer (some ⟨p103, 0, none⟩)), (7, vu r144), (22, Value.bool ((!r145) && (decide (0 = 0))))] _ from ?_)
      refine WL.nil ?_
      refine At.then ?_
      rcases cnd h with ⟨hc162, h⟩ | ⟨hc162, h⟩
      ·refine WC.condT' rfl hc162 ?_
       refine WC.region ?_
       refine WL.y (Y.move rfl) rfl ?_
       refine WL.y (Y.nilCheck rfl) rfl ?_
       have hf163 := hb102.st hst157 rfl
       refine WL.store (v := vi 2) (cells' := [vi 2]) ty29 rfl rfl hf163 rfl (Nat.le_of_ble_eq_true rfl) rfl rfl ?_
       intro wd164 hst165 hb166
       refine WL.nil ?_
       refine At.then ?_
       refine WC.seq ?_
       refine WC.region ?_
       refine WL.y (Y.move rfl) rfl ?_
       refine WL.y (Y.assign rfl) rfl ?_
       refine WL.nil ?_
       refine At.then ?_
       refine WC.ret ?_
       have hf167 := hf158.mono (imm_st hst165 rfl rfl)
       have hf168 := hb159.st hst165 rfl
       exact At.res (.inl rfl) rfl (.tmp rfl .nil) ⟨(r146.b, r146.n, r146.at_, 2, r144, O154, z148), ⟨some1 h, (Stp.trans (Stp.up hst157 rfl) (Stp.up hst165 rfl)), hf167, hf168, hb166⟩, rfl⟩
      ·refine WC.condF' rfl hc162 ?_
       refine WC.skip ?_
       refine At.then ?_
       refine WC.seq ?_
       refine WC.region ?_
       refine WL.y (Y.move rfl) rfl ?_
       refine WL.y (Y.assign rfl) rfl ?_
       refine WL.nil ?_
       refine At.then ?_
       refine WC.ret ?_
       have hf169 := hb102.st hst157 rfl
       exact At.res (.inl rfl) rfl (.tmp rfl .nil) ⟨(r146.b, r146.n, r146.at_, 0, r144, O154, z148), ⟨some1 h, (Stp.up hst157 rfl), hf158, hb159, hf169⟩, rfl⟩
    ·rintro ⟨c128, c131, c132, c134, x135, O136, v129⟩ wd137 ⟨rfl, hst138, hf130, hb127, hb133⟩
     replace h := hk140
     try dsimp only at h hst138 hf130 hb127 hb133
     refine (show WL _ _ _ _ _ ((17, vu x135) :: _) _ from ?_)
     refine WL.y (Y.assign rfl) rfl ?_
     refine WL.nil ?_
     refine At.then ?_
     refine WC.ret ?_
     refine At.thenR ?_
     have hf170 := hf125.st hst138 rfl
     exact At.res (.inl rfl) rfl (.tmp rfl .nil) ⟨(a0.win.ahead, a0.win.size, c128, c131, c132, c134, x135, O136, v129), ⟨some1 h, (Stp.up hst138 rfl), hf170, hf130, hb127, hb133⟩, rfl⟩
   ·refine WC.condF' rfl hc126 ?_
    refine WC.skip ?_
    refine At.then ?_
    refine WC.seq ?_
    refine WC.seq ?_
    refine WC.region ?_
    refine WL.y (Y.move rfl) rfl ?_
    refine WL.y (Y.move rfl) rfl ?_
    obtain ⟨p183, h, hk184⟩ := bnd h
    refine WL.callJ (vals := [Value.pointer (some ⟨b42, 0, none⟩), Value.pointer (some ⟨p103, 0, none⟩), vi 1]) (σ := (List UInt8 × Int × Int × Int × UInt64 × Own × Value)) (fun x w' => (x.1, x.2.1, x.2.2.1, x.2.2.2.1, x.2.2.2.2.1) = p183 ∧ Stp [15, 1002] O104 wd105 x.2.2.2.2.2.1 w' ∧ Sl Rep.b w' (imm x.2.2.2.2.2.1) x.2.2.2.2.2.2 x.1 ∧ Blk 1002 x.2.2.2.2.2.1 w' b42 58 [x.2.2.2.2.2.2, vi x.2.1, vi x.2.2.1] ∧ Blk 15 x.2.2.2.2.2.1 w' p103 29 [vi x.2.2.2.1]) (fun x => vu x.2.2.2.2.1) kok38 rfl rfl ?_ ?_
    ·refine Rets.enter Tryd.func38 rfl rfl ?_
     refine (show WC _ _ _ _ [(0, Value.pointer (some ⟨b42, 0, none⟩)), (1, Value.pointer (some ⟨p103, 0, none⟩)), (2, vi 1)] _ from ?_)
     refine WC.seq ?_
     refine WC.region ?_
     refine WL.y (Y.assign (v := vu 0) rfl) rfl ?_
     refine WL.nil ?_
     refine At.then ?_
     refine WC.seq ?_
     refine WC.region ?_
     refine WL.y (Y.move rfl) rfl ?_
     refine WL.y (Y.move rfl) rfl ?_
     have hf185 := hb101.st hst106 rfl
     have hf186 := hf93.mono (imm_st hst100 rfl rfl)
     have hf187 := hf186.mono (imm_st hst106 rfl rfl)
     obtain ⟨⟨r188, r189, r190⟩, hp191, h⟩ := bnd h
     refine WL.call (vals := [Value.pointer (some ⟨b42, 0, none⟩), vi 1]) kok42 rfl rfl (c_bitio_Reader_Take (A := imm O104) (a0 := a1) hf187 hf185.blk (fun k hk => imm_ne hf185.lab rfl k hk) hp191) ?_
     rintro vr197 wd196 ⟨z192, rfl, hm195, f193, f194⟩
     obtain ⟨O198, hold199, hnew200, hst201⟩ := adopt O104 (fun k => 1) [1002] hm195 (memB hf185.lab rfl)
     have hf202 : Sl Rep.b wd196 (imm O198) z192 r190.b := Sl.adoptI (O := O104) f193 (fun _ hk => hk) (fun _ _ => Nat.le_refl _) hold199 hnew200
     have hb203 : Blk 1002 O198 wd196 b42 58 [z192, vi r190.n, vi r190.at_] := Blk.adopt hf185 hold199 f194
     refine WL.y (Y.move rfl) rfl ?_
     refine WL.y (Y.extract rfl rfl) rfl ?_
     refine WL.y (Y.extract rfl rfl) rfl ?_
     refine WL.y (Y.assign rfl) rfl ?_
     refine WL.y (Y.assign rfl) rfl ?_
     refine WL.nil ?_
     refine At.then ?_
     refine WC.seq ?_
     refine WC.seq ?_
     refine WC.region ?_
     refine WL.y (Y.move rfl) rfl ?_
     refine WL.y (Y.not rfl) rfl ?_
     refine WL.y (Y.move rfl) rfl ?_
     refine WL.cut 5 (σ := Unit) (fun _ w' => wd196 = w') (fun _ => [(1, Value.pointer (some ⟨p103, 0, none⟩)), (7, vu r188), (22, Value.bool ((!r189) && (decide (0 = 0))))]) ?_ ?_
     ·refine WL.part 17 rfl (fun hE204 => ?_) (fun hE204 => ?_)
      ·refine WL.ung rfl rfl ?_
       refine WL.y (Y.move rfl) rfl ?_
       refine WL.ung rfl rfl ?_
       refine WL.y (Y.nilCheck rfl) rfl ?_
       refine WL.ung rfl rfl ?_
       have hf205 := hb102.st hst201 rfl
       refine WL.y (Y.loadSc ty29 rfl rfl (hf205.cell 0 _ rfl)) rfl ?_
       refine WL.ung rfl rfl ?_
       refine WL.y (Y.eql_i rfl rfl) rfl ?_
       refine WL.y (Y.pick (b := true) rfl rfl) rfl ?_
       refine WL.ren (v' := Value.bool ((!r189) && (decide (0 = 0)))) 22 rfl (congrArg Value.bool (andT hE204)) ?_
       exact WL.nil (At.join () rfl (.cons rfl (.cons rfl (.cons rfl .nil))))
      ·refine WL.gS rfl rfl rfl rfl ?_
       refine WL.gS rfl rfl rfl rfl ?_
       refine WL.gS rfl rfl rfl rfl ?_
       refine WL.gS rfl rfl rfl rfl ?_
       refine WL.y (Y.pick (b := false) rfl rfl) rfl ?_
       refine WL.ren (v' := Value.bool ((!r189) && (decide (0 = 0)))) 22 rfl (congrArg Value.bool (andF hE204)) ?_
       exact WL.nil (At.join () rfl (.cons rfl (.cons rfl (.cons rfl .nil))))
     ·rintro _ _ rfl
      refine (show WL _ _ _ _ _ [(1, Value.pointer (some ⟨p103, 0, none⟩)), (7, vu r188), (22, Value.bool ((!r189) && (decide (0 = 0))))] _ from ?_)
      refine WL.nil ?_
      refine At.then ?_
      rcases cnd h with ⟨hc206, h⟩ | ⟨hc206, h⟩
      ·refine WC.condT' rfl hc206 ?_
       refine WC.region ?_
       refine WL.y (Y.move rfl) rfl ?_
       refine WL.y (Y.nilCheck rfl) rfl ?_
       have hf207 := hb102.st hst201 rfl
       refine WL.store (v := vi 2) (cells' := [vi 2]) ty29 rfl rfl hf207 rfl (Nat.le_of_ble_eq_true rfl) rfl rfl ?_
       intro wd208 hst209 hb210
       refine WL.nil ?_
       refine At.then ?_
       refine WC.seq ?_
       refine WC.region ?_
       refine WL.y (Y.move rfl) rfl ?_
       refine WL.y (Y.assign rfl) rfl ?_
       refine WL.nil ?_
       refine At.then ?_
       refine WC.ret ?_
       have hf211 := hf202.mono (imm_st hst209 rfl rfl)
       have hf212 := hb203.st hst209 rfl
       exact At.res (.inl rfl) rfl (.tmp rfl .nil) ⟨(r190.b, r190.n, r190.at_, 2, r188, O198, z192), ⟨some1 h, (Stp.trans (Stp.up hst201 rfl) (Stp.up hst209 rfl)), hf211, hf212, hb210⟩, rfl⟩
      ·refine WC.condF' rfl hc206 ?_
       refine WC.skip ?_
       refine At.then ?_
       refine WC.seq ?_
       refine WC.region ?_
       refine WL.y (Y.move rfl) rfl ?_
       refine WL.y (Y.assign rfl) rfl ?_
       refine WL.nil ?_
       refine At.then ?_
       refine WC.ret ?_
       have hf213 := hb102.st hst201 rfl
       exact At.res (.inl rfl) rfl (.tmp rfl .nil) ⟨(r190.b, r190.n, r190.at_, 0, r188, O198, z192), ⟨some1 h, (Stp.up hst201 rfl), hf202, hb203, hf213⟩, rfl⟩
    ·rintro ⟨c172, c175, c176, c178, x179, O180, v173⟩ wd181 ⟨rfl, hst182, hf174, hb171, hb177⟩
     replace h := hk184
     try dsimp only at h hst182 hf174 hb171 hb177
     refine (show WL _ _ _ _ _ ((20, vu x179) :: _) _ from ?_)
     refine WL.y (Y.eql_u (b := 0) rfl rfl) rfl ?_
     refine WL.nil ?_
     refine At.then ?_
     rcases cnd h with ⟨hc214, h⟩ | ⟨hc214, h⟩
     ·refine WC.condT' rfl hc214 ?_
      refine WC.seq ?_
      refine WC.region ?_
      refine WL.y (Y.assign (v := vu 0) rfl) rfl ?_
      refine WL.nil ?_
      refine At.then ?_
      refine WC.ret ?_
      refine At.thenR ?_
      have hf215 := hf125.st hst182 rfl
      exact At.res (.inl rfl) rfl (.tmp rfl .nil) ⟨(a0.win.ahead, a0.win.size, c172, c175, c176, c178, 0, O180, v173), ⟨some1 h, (Stp.up hst182 rfl), hf215, hf174, hb171, hb177⟩, rfl⟩
     ·refine WC.condF' rfl hc214 ?_
      refine WC.skip ?_
      refine At.then ?_
      refine WC.seq ?_
      refine WC.seq ?_
      refine WC.region ?_
      refine WL.y (Y.move rfl) rfl ?_
      refine WL.y (Y.move rfl) rfl ?_
      obtain ⟨p228, h, hk229⟩ := bnd h
      refine WL.callJ (vals := [Value.pointer (some ⟨b42, 0, none⟩), Value.pointer (some ⟨p103, 0, none⟩), vi 1]) (σ := (List UInt8 × Int × Int × Int × UInt64 × Own × Value)) (fun x w' => (x.1, x.2.1, x.2.2.1, x.2.2.2.1, x.2.2.2.2.1) = p228 ∧ Stp [15, 1002] O180 wd181 x.2.2.2.2.2.1 w' ∧ Sl Rep.b w' (imm x.2.2.2.2.2.1) x.2.2.2.2.2.2 x.1 ∧ Blk 1002 x.2.2.2.2.2.1 w' b42 58 [x.2.2.2.2.2.2, vi x.2.1, vi x.2.2.1] ∧ Blk 15 x.2.2.2.2.2.1 w' p103 29 [vi x.2.2.2.1]) (fun x => vu x.2.2.2.2.1) kok38 rfl rfl ?_ ?_
      ·refine Rets.enter Tryd.func38 rfl rfl ?_
       refine (show WC _ _ _ _ [(0, Value.pointer (some ⟨b42, 0, none⟩)), (1, Value.pointer (some ⟨p103, 0, none⟩)), (2, vi 1)] _ from ?_)
       refine WC.seq ?_
       refine WC.region ?_
       refine WL.y (Y.assign (v := vu 0) rfl) rfl ?_
       refine WL.nil ?_
       refine At.then ?_
       refine WC.seq ?_
       refine WC.region ?_
       refine WL.y (Y.move rfl) rfl ?_
       refine WL.y (Y.move rfl) rfl ?_
       obtain ⟨⟨r230, r231, r232⟩, hp233, h⟩ := bnd h
       refine WL.call (vals := [Value.pointer (some ⟨b42, 0, none⟩), vi 1]) kok42 rfl rfl (c_bitio_Reader_Take (A := imm O180) (a0 := (bitio_Reader.mk c172 c175 c176)) hf174 hb171.blk (fun k hk => imm_ne hb171.lab rfl k hk) hp233) ?_
       rintro vr239 wd238 ⟨z234, rfl, hm237, f235, f236⟩
       obtain ⟨O240, hold241, hnew242, hst243⟩ := adopt O180 (fun k => 1) [1002] hm237 (memB hb171.lab rfl)
       have hf244 : Sl Rep.b wd238 (imm O240) z234 r232.b := Sl.adoptI (O := O180) f235 (fun _ hk => hk) (fun _ _ => Nat.le_refl _) hold241 hnew242
       have hb245 : Blk 1002 O240 wd238 b42 58 [z234, vi r232.n, vi r232.at_] := Blk.adopt hb171 hold241 f236
       refine WL.y (Y.move rfl) rfl ?_
       refine WL.y (Y.extract rfl rfl) rfl ?_
       refine WL.y (Y.extract rfl rfl) rfl ?_
       refine WL.y (Y.assign rfl) rfl ?_
       refine WL.y (Y.assign rfl) rfl ?_
       refine WL.nil ?_
       refine At.then ?_
       refine WC.seq ?_
       refine WC.seq ?_
       refine WC.region ?_
       refine WL.y (Y.move rfl) rfl ?_
       refine WL.y (Y.not rfl) rfl ?_
       refine WL.y (Y.move rfl) rfl ?_
       refine WL.cut 5 (σ := Unit) (fun _ w' => wd238 = w') (fun _ => [(1, Value.pointer (some ⟨p103, 0, none⟩)), (7, vu r230), (22, Value.bool ((!r231) && (decide (c178 = 0))))]) ?_ ?_
       ·refine WL.part 17 rfl (fun hE246 => ?_) (fun hE246 => ?_)
        ·refine WL.ung rfl rfl ?_
         refine WL.y (Y.move rfl) rfl ?_
         refine WL.ung rfl rfl ?_
         refine WL.y (Y.nilCheck rfl) rfl ?_
         refine WL.ung rfl rfl ?_
         have hf247 := hb177.st hst243 rfl
         refine WL.y (Y.loadSc ty29 rfl rfl (hf247.cell 0 _ rfl)) rfl ?_
         refine WL.ung rfl rfl ?_
         refine WL.y (Y.eql_i rfl rfl) rfl ?_
         refine WL.y (Y.pick (b := true) rfl rfl) rfl ?_
         refine WL.ren (v' := Value.bool ((!r231) && (decide (c178 = 0)))) 22 rfl (congrArg Value.bool (andT hE246)) ?_
         exact WL.nil (At.join () rfl (.cons rfl (.cons rfl (.cons rfl .nil))))
        ·refine WL.gS rfl rfl rfl rfl ?_
         refine WL.gS rfl rfl rfl rfl ?_
         refine WL.gS rfl rfl rfl rfl ?_
         refine WL.gS rfl rfl rfl rfl ?_
         refine WL.y (Y.pick (b := false) rfl rfl) rfl ?_
         refine WL.ren (v' := Value.bool ((!r231) && (decide (c178 = 0)))) 22 rfl (congrArg Value.bool (andF hE246)) ?_
         exact WL.nil (At.join () rfl (.cons rfl (.cons rfl (.cons rfl .nil))))
       ·rintro _ _ rfl
        refine (show WL _ _ _ _ _ [(1, Value.pointer (some ⟨p103, 0, none⟩)), (7, vu r230), (22, Value.bool ((!r231) && (decide (c178 = 0))))] _ from ?_)
        refine WL.nil ?_
        refine At.then ?_
        rcases cnd h with ⟨hc248, h⟩ | ⟨hc248, h⟩
        ·refine WC.condT' rfl hc248 ?_
         refine WC.region ?_
         refine WL.y (Y.move rfl) rfl ?_
         refine WL.y (Y.nilCheck rfl) rfl ?_
         have hf249 := hb177.st hst243 rfl
         refine WL.store (v := vi 2) (cells' := [vi 2]) ty29 rfl rfl hf249 rfl (Nat.le_of_ble_eq_true rfl) rfl rfl ?_
         intro wd250 hst251 hb252
         refine WL.nil ?_
         refine At.then ?_
         refine WC.seq ?_
         refine WC.region ?_
         refine WL.y (Y.move rfl) rfl ?_
         refine WL.y (Y.assign rfl) rfl ?_
         refine WL.nil ?_
         refine At.then ?_
         refine WC.ret ?_
         have hf253 := hf244.mono (imm_st hst251 rfl rfl)
         have hf254 := hb245.st hst251 rfl
         exact At.res (.inl rfl) rfl (.tmp rfl .nil) ⟨(r232.b, r232.n, r232.at_, 2, r230, O240, z234), ⟨some1 h, (Stp.trans (Stp.up hst243 rfl) (Stp.up hst251 rfl)), hf253, hf254, hb252⟩, rfl⟩
        ·refine WC.condF' rfl hc248 ?_
         refine WC.skip ?_
         refine At.then ?_
         refine WC.seq ?_
         refine WC.region ?_
         refine WL.y (Y.move rfl) rfl ?_
         refine WL.y (Y.assign rfl) rfl ?_
         refine WL.nil ?_
         refine At.then ?_
         refine WC.ret ?_
         have hf255 := hb177.st hst243 rfl
         exact At.res (.inl rfl) rfl (.tmp rfl .nil) ⟨(r232.b, r232.n, r232.at_, c178, r230, O240, z234), ⟨some1 h, (Stp.up hst243 rfl), hf244, hb245, hf255⟩, rfl⟩
      ·rintro ⟨c217, c220, c221, c223, x224, O225, v218⟩ wd226 ⟨rfl, hst227, hf219, hb216, hb222⟩
       replace h := hk229
       try dsimp only at h hst227 hf219 hb216 hb222
       refine (show WL _ _ _ _ _ ((24, vu x224) :: _) _ from ?_)
       refine WL.y (Y.eql_u (b := 0) rfl rfl) rfl ?_
       refine WL.nil ?_
       refine At.then ?_
       rcases cnd h with ⟨hc256, h⟩ | ⟨hc256, h⟩
       ·refine WC.condT' rfl hc256 ?_
        refine WC.seq ?_
        obtain ⟨p262, h, hk263⟩ := bnd h
        refine WC.join (σ := (Int × Own)) (fun x w' => x.1 = p262 ∧ Stp [15] O225 wd226 x.2 w' ∧ Blk 15 x.2 w' p103 29 [vi x.1]) (fun x => [(0, Value.pointer (some ⟨b40, 0, none⟩)), (1, Value.pointer (some ⟨b42, 0, none⟩)), (2, Value.pointer (some ⟨p103, 0, none⟩))]) ?_ ?_
        ·refine WC.seq ?_
         refine WC.drawH [] [0, 1, 2, 3, 4, 5, 6, 7, 8, 9, 10, 11] O225 12 fmix rfl (by kernel_rfl) ?_
         intro wd264 hst265
         refine WD.y 0 rfl (by kernel_rfl) (fun _ _ _ => Y.move rfl) rfl ?_
         refine WD.y 1 rfl (by kernel_rfl) (fun _ _ _ => Y.nilCheck rfl) rfl ?_
         refine WD.y 2 rfl (by kernel_rfl) (fun _ _ _ => Y.fieldAddr fo62_2 rfl) rfl ?_
         refine WD.y 3 rfl (by kernel_rfl) (fun wd276 O275 hst277 => have hf278 := hf125.st hst182 rfl; have hf279 := hf278.st hst227 rfl; have hf280 := hf279.st hst265 rfl; have hf281 := hf280.st hst277 rfl; Y.loadAg ty60 rfl rfl (hf281.cells 2 [vi a0.win.ahead, vi a0.win.size] rfl) rfl) rfl ?_
         refine WD.y 4 rfl (by kernel_rfl) (fun wd283 O282 hst284 => have hf285 := hG14.st hst17 rfl; have hf286 := hf285.st hst46 rfl; have hf287 := hf286.st hst89 rfl; have hf288 := hf287.st hst100 rfl; have hf289 := hf288.st hst106 rfl; have hf290 := hf289.st hst182 rfl; have hf291 := hf290.st hst227 rfl; have hf292 := hf291.st hst265 rfl; have hf293 := hf292.st hst284 rfl; Y.loadAg ty60 rfl rfl hf293.at_ rfl) rfl ?_
         refine WD.y 5 rfl (by kernel_rfl) (fun _ _ _ => Y.eql_ag agok60 rfl rfl (EqF.cons (by decide) (fun w => run_part_plain w (by kernel_rfl) rfl) (fun w => run_part_plain w (by kernel_rfl) rfl) (EqV.i (a := a0.win.ahead) (b := 0) ty3.u) (EqF.cons (by decide) (fun w => run_part_plain w (by kernel_rfl) rfl) (fun w => run_part_plain w (by kernel_rfl) rfl) (EqV.i (a := a0.win.size) (b := 0) ty3.u) EqF.nil))) rfl ?_
         refine WD.y 6 rfl (by kernel_rfl) (fun _ _ _ => Y.move rfl) rfl ?_
         refine WD.join (σ := Unit) (f' := 0) [11, 10, 9, 8, 7, 6, 5, 4, 3, 2, 1, 0] (fun _ O' w' => O225 = O' ∧ wd264 = w') (fun _ => [(0, Value.pointer (some ⟨b40, 0, none⟩)), (1, Value.pointer (some ⟨b42, 0, none⟩)), (2, Value.pointer (some ⟨p103, 0, none⟩)), (37, Value.bool ((decide (a0.win.ahead = (0 : Int)) && (decide (a0.win.size = (0 : Int)) && true)) && (decide (c223 = 0))))]) (fun hJ300 => ?_) ?_
         ·refine WD.part 32 rfl (fun hE301 => ?_) (fun hE301 => ?_)
          ·refine WD.gT 7 rfl (by kernel_rfl) rfl rfl (fun _ _ _ => Y.move rfl) rfl ?_
           refine WD.gT 8 rfl (by kernel_rfl) rfl rfl (fun _ _ _ => Y.nilCheck rfl) rfl ?_
           refine WD.gT 9 rfl (by kernel_rfl) rfl rfl (fun wd309 O308 hst310 => have hf311 := hb222.st hst265 rfl; have hf312 := hf311.st hst310 rfl; Y.loadSc ty29 rfl rfl (hf312.cell 0 _ rfl)) rfl ?_
           refine WD.gT 10 rfl (by kernel_rfl) rfl rfl (fun _ _ _ => Y.eql_i rfl rfl) rfl ?_
           refine WD.y 11 rfl (by kernel_rfl) (fun _ _ _ => Y.pick (b := true) rfl rfl) rfl ?_
           refine WD.ren (v' := Value.bool ((decide (a0.win.ahead = (0 : Int)) && (decide (a0.win.size = (0 : Int)) && true)) && (decide (c223 = 0)))) 37 rfl (congrArg Value.bool (andT hE301)) ?_
           exact hJ300 () _ _ _ ⟨rfl, rfl⟩ (.cons rfl (.cons rfl (.cons rfl (.cons rfl .nil))))
          ·refine WD.gS 7 rfl (by kernel_rfl) rfl rfl rfl rfl ?_
           refine WD.gS 8 rfl (by kernel_rfl) rfl rfl rfl rfl ?_
           refine WD.gS 9 rfl (by kernel_rfl) rfl rfl rfl rfl ?_
           refine WD.gS 10 rfl (by kernel_rfl) rfl rfl rfl rfl ?_
           refine WD.y 11 rfl (by kernel_rfl) (fun _ _ _ => Y.pick (b := false) rfl rfl) rfl ?_
           refine WD.ren (v' := Value.bool ((decide (a0.win.ahead = (0 : Int)) && (decide (a0.win.size = (0 : Int)) && true)) && (decide (c223 = 0)))) 37 rfl (congrArg Value.bool (andF hE301)) ?_
           exact hJ300 () _ _ _ ⟨rfl, rfl⟩ (.cons rfl (.cons rfl (.cons rfl (.cons rfl .nil))))
         ·rintro _ _ _ ⟨rfl, rfl⟩
          refine (show WD _ _ _ _ _ _ _ _ [(0, Value.pointer (some ⟨b40, 0, none⟩)), (1, Value.pointer (some ⟨b42, 0, none⟩)), (2, Value.pointer (some ⟨p103, 0, none⟩)), (37, Value.bool ((decide (a0.win.ahead = (0 : Int)) && (decide (a0.win.size = (0 : Int)) && true)) && (decide (c223 = 0))))] _ _ from ?_)
          refine WD.done_ (by kernel_rfl) ?_
          refine At.then ?_
          rcases cnd h with ⟨hc322, h⟩ | ⟨hc322, h⟩
          ·refine WC.condT' rfl hc322 ?_
           refine WC.region ?_
           refine WL.y (Y.move rfl) rfl ?_
           refine WL.y (Y.nilCheck rfl) rfl ?_
           have hf323 := hb222.st hst265 rfl
           refine WL.store (v := vi 3) (cells' := [vi 3]) ty29 rfl rfl hf323 rfl (Nat.le_of_ble_eq_true rfl) rfl rfl ?_
           intro wd324 hst325 hb326
           refine WL.nil ?_
           exact At.join (σ := (Int × Own)) (3, O225) ⟨some1 h, (Stp.trans (Stp.up hst265 rfl) (Stp.up hst325 rfl)), hb326⟩ (.cons rfl (.cons rfl (.cons rfl .nil)))
          ·refine WC.condF' rfl hc322 ?_
           refine WC.skip ?_
           have hf327 := hb222.st hst265 rfl
           exact At.join (σ := (Int × Own)) (c223, O225) ⟨some1 h, (Stp.up hst265 rfl), hf327⟩ (.cons rfl (.cons rfl (.cons rfl .nil)))
        ·rintro ⟨c258, O259⟩ wd260 ⟨rfl, hst261, hb257⟩
         replace h := hk263
         try dsimp only at h hst261 hb257
         refine (show At _ _ _ [(0, Value.pointer (some ⟨b40, 0, none⟩)), (1, Value.pointer (some ⟨b42, 0, none⟩)), (2, Value.pointer (some ⟨p103, 0, none⟩))] _ from ?_)
         refine At.then ?_
         refine WC.seq ?_
         refine WC.drawH [15, 1002] [0, 1, 2, 3, 4, 5, 6, 7, 8, 9, 10, 11, 12, 13, 14, 15, 16] O259 17 fmix rfl (by kernel_rfl) ?_
         intro wd328 hst329
         refine WD.y 0 rfl (by kernel_rfl) (fun _ _ _ => Y.move rfl) rfl ?_
         refine WD.y 1 rfl (by kernel_rfl) (fun _ _ _ => Y.move rfl) rfl ?_
         refine WD.y 2 rfl (by kernel_rfl) (fun _ _ _ => Y.move rfl) rfl ?_
         refine WD.y 3 rfl (by kernel_rfl) (fun _ _ _ => Y.nilCheck rfl) rfl ?_
         refine WD.y 4 rfl (by kernel_rfl) (fun _ _ _ => Y.fieldAddr fo62_2 rfl) rfl ?_
         refine WD.y 5 rfl (by kernel_rfl) (fun _ _ _ => Y.fieldAddr fo60_1 rfl) rfl ?_
         refine WD.y 6 rfl (by kernel_rfl) (fun wd349 O348 hst350 => have hf351 := hf125.st hst182 rfl; have hf352 := hf351.st hst227 rfl; have hf353 := hf352.st hst261 rfl; have hf354 := hf353.st hst329 rfl; have hf355 := hf354.st hst350 rfl; Y.loadSc ty3 rfl rfl (hf355.cell 3 _ rfl)) rfl ?_
         refine WD.y 8 rfl (by kernel_rfl) (fun _ _ _ => Y.move rfl) rfl ?_
         refine WD.y 9 rfl (by kernel_rfl) (fun _ _ _ => Y.nilCheck rfl) rfl ?_
         refine WD.y 10 rfl (by kernel_rfl) (fun _ _ _ => Y.fieldAddr fo62_2 rfl) rfl ?_
         refine WD.y 11 rfl (by kernel_rfl) (fun wd366 O365 hst367 => have hf368 := hf125.st hst182 rfl; have hf369 := hf368.st hst227 rfl; have hf370 := hf369.st hst261 rfl; have hf371 := hf370.st hst329 rfl; have hf372 := hf371.st hst367 rfl; Y.loadAg ty60 rfl rfl (hf372.cells 2 [vi a0.win.ahead, vi a0.win.size] rfl) rfl) rfl ?_
         refine WD.heavy 7 rfl (by kernel_rfl) ?_
         obtain ⟨p385, h, hk386⟩ := bnd h
         refine WL.callJ (vals := [Value.pointer (some ⟨b42, 0, none⟩), Value.pointer (some ⟨p103, 0, none⟩), vi a0.win.size]) (σ := (Int × List UInt8 × Int × Int × UInt64 × Own × Value)) (fun x w' => (x.1, x.2.1, x.2.2.1, x.2.2.2.1, x.2.2.2.2.1) = p385 ∧ Stp [15, 1002] O259 wd328 x.2.2.2.2.2.1 w' ∧ Blk 15 x.2.2.2.2.2.1 w' p103 29 [vi x.1] ∧ Sl Rep.b w' (imm x.2.2.2.2.2.1) x.2.2.2.2.2.2 x.2.1 ∧ Blk 1002 x.2.2.2.2.2.1 w' b42 58 [x.2.2.2.2.2.2, vi x.2.2.1, vi x.2.2.2.1]) (fun x => vu x.2.2.2.2.1) kok38 rfl rfl ?_ ?_
         ·refine Rets.enter Tryd.func38 rfl rfl ?_
          refine (show WC _ _ _ _ [(0, Value.pointer (some ⟨b42, 0, none⟩)), (1, Value.pointer (some ⟨p103, 0, none⟩)), (2, vi a0.win.size)] _ from ?_)
          refine WC.seq ?_
          refine WC.region ?_
          refine WL.y (Y.assign (v := vu 0) rfl) rfl ?_
          refine WL.nil ?_
          refine At.then ?_
          refine WC.seq ?_
          refine WC.region ?_
          refine WL.y (Y.move rfl) rfl ?_
          refine WL.y (Y.move rfl) rfl ?_
          have hf387 := hb216.st hst261 rfl
          have hf388 := hf387.st hst329 rfl
          have hf389 := hf219.mono (imm_st hst261 rfl rfl)
          have hf390 := hf389.mono (imm_st hst329 rfl rfl)
          obtain ⟨⟨r391, r392, r393⟩, hp394, h⟩ := bnd h
          refine WL.call (vals := [Value.pointer (some ⟨b42, 0, none⟩), vi a0.win.size]) kok42 rfl rfl (c_bitio_Reader_Take (A := imm O259) (a0 := (bitio_Reader.mk c217 c220 c221)) hf390 hf388.blk (fun k hk => imm_ne hf388.lab rfl k hk) hp394) ?_
          rintro vr400 wd399 ⟨z395, rfl, hm398, f396, f397⟩
          obtain ⟨O401, hold402, hnew403, hst404⟩ := adopt O259 (fun k => 1) [1002] hm398 (memB hf388.lab rfl)
          have hf405 : Sl Rep.b wd399 (imm O401) z395 r393.b := Sl.adoptI (O := O259) f396 (fun _ hk => hk) (fun _ _ => Nat.le_refl _) hold402 hnew403
          have hb406 : Blk 1002 O401 wd399 b42 58 [z395, vi r393.n, vi r393.at_] := Blk.adopt hf388 hold402 f397
          refine WL.y (Y.move rfl) rfl ?_
          refine WL.y (Y.extract rfl rfl) rfl ?_
          refine WL.y (Y.extract rfl rfl) rfl ?_
          refine WL.y (Y.assign rfl) rfl ?_
          refine WL.y (Y.assign rfl) rfl ?_
          refine WL.nil ?_
          refine At.then ?_
          refine WC.seq ?_
          refine WC.seq ?_
          refine WC.region ?_
          refine WL.y (Y.move rfl) rfl ?_
          refine WL.y (Y.not rfl) rfl ?_
          refine WL.y (Y.move rfl) rfl ?_
          refine WL.cut 5 (σ := Unit) (fun _ w' => wd399 = w') (fun _ => [(1, Value.pointer (some ⟨p103, 0, none⟩)), (7, vu r391), (22, Value.bool ((!r392) && (decide (c258 = 0))))]) ?_ ?_
          ·refine WL.part 17 rfl (fun hE407 => ?_) (fun hE407 => ?_)
           ·refine WL.ung rfl rfl ?_
            refine WL.y (Y.move rfl) rfl ?_
            refine WL.ung rfl rfl ?_
            refine WL.y (Y.nilCheck rfl) rfl ?_
            refine WL.ung rfl rfl ?_
            have hf408 := hb257.st hst329 rfl
            have hf409 := hf408.st hst404 rfl
            refine WL.y (Y.loadSc ty29 rfl rfl (hf409.cell 0 _ rfl)) rfl ?_
            refine WL.ung rfl rfl ?_
            refine WL.y (Y.eql_i rfl rfl) rfl ?_
            refine WL.y (Y.pick (b := true) rfl rfl) rfl ?_
            refine WL.ren (v' := Value.bool ((!r392) && (decide (c258 = 0)))) 22 rfl (congrArg Value.bool (andT hE407)) ?_
            exact WL.nil (At.join () rfl (.cons rfl (.cons rfl (.cons rfl .nil))))
           ·refine WL.gS rfl rfl rfl rfl ?_
            refine WL.gS rfl rfl rfl rfl ?_
            refine WL.gS rfl rfl rfl rfl ?_
            refine WL.gS rfl rfl rfl rfl ?_
            refine WL.y (Y.pick (b := false) rfl rfl) rfl ?_
            refine WL.ren (v' := Value.bool ((!r392) && (decide (c258 = 0)))) 22 rfl (congrArg Value.bool (andF hE407)) ?_
            exact WL.nil (At.join () rfl (.cons rfl (.cons rfl (.cons rfl .nil))))
          ·rintro _ _ rfl
           refine (show WL _ _ _ _ _ [(1, Value.pointer (some ⟨p103, 0, none⟩)), (7, vu r391), (22, Value.bool ((!r392) && (decide (c258 = 0))))] _ from ?_)
           refine WL.nil ?_
           refine At.then ?_
           rcases cnd h with ⟨hc410, h⟩ | ⟨hc410, h⟩
           ·refine WC.condT' rfl hc410 ?_
            refine WC.region ?_
            refine WL.y (Y.move rfl) rfl ?_
            refine WL.y (Y.nilCheck rfl) rfl ?_
            have hf411 := hb257.st hst329 rfl
            have hf412 := hf411.st hst404 rfl
            refine WL.store (v := vi 2) (cells' := [vi 2]) ty29 rfl rfl hf412 rfl (Nat.le_of_ble_eq_true rfl) rfl rfl ?_
            intro wd413 hst414 hb415
            refine WL.nil ?_
            refine At.then ?_
            refine WC.seq ?_
            refine WC.region ?_
            refine WL.y (Y.move rfl) rfl ?_
            refine WL.y (Y.assign rfl) rfl ?_
            refine WL.nil ?_
            refine At.then ?_
            refine WC.ret ?_
            have hf416 := hf405.mono (imm_st hst414 rfl rfl)
            have hf417 := hb406.st hst414 rfl
            exact At.res (.inl rfl) rfl (.tmp rfl .nil) ⟨(2, r393.b, r393.n, r393.at_, r391, O401, z395), ⟨some1 h, (Stp.trans (Stp.up hst404 rfl) (Stp.up hst414 rfl)), hb415, hf416, hf417⟩, rfl⟩
           ·refine WC.condF' rfl hc410 ?_
            refine WC.skip ?_
            refine At.then ?_
            refine WC.seq ?_
            refine WC.region ?_
            refine WL.y (Y.move rfl) rfl ?_
            refine WL.y (Y.assign rfl) rfl ?_
            refine WL.nil ?_
            refine At.then ?_
            refine WC.ret ?_
            have hf418 := hb257.st hst329 rfl
            have hf419 := hf418.st hst404 rfl
            exact At.res (.inl rfl) rfl (.tmp rfl .nil) ⟨(c258, r393.b, r393.n, r393.at_, r391, O401, z395), ⟨some1 h, (Stp.up hst404 rfl), hf419, hf405, hb406⟩, rfl⟩
         ·rintro ⟨c374, c376, c379, c380, x381, O382, v377⟩ wd383 ⟨rfl, hst384, hb373, hf378, hb375⟩
          replace h := hk386
          try dsimp only at h hst384 hb373 hf378 hb375
          refine (show WL _ _ _ _ _ ((47, vu x381) :: _) _ from ?_)
          refine WL.nil ?_
          refine At.dq (Stp.up hst384 rfl) ?_
          refine WD.heavy 12 rfl (by kernel_rfl) ?_
          obtain ⟨r420, hp421, h⟩ := bnd h
          refine WL.call (vals := [Value.agg (List.toArray [vi a0.win.ahead, vi a0.win.size])]) kok32 rfl rfl (c_xor_window_behind (a0 := a0.win) hp421) ?_
          rintro vr424 wd423 ⟨rfl, hm422⟩
          obtain ⟨O425, hold426, hnew427, hst428⟩ := adoptE O382 (fun k => 1) hm422
          refine WL.nil ?_
          refine At.dq (Stp.up hst428 rfl) ?_
          refine WD.y 13 rfl (by kernel_rfl) (fun _ _ _ => Y.rem_i (by decide) rfl rfl) rfl ?_
          refine WD.y 14 rfl (by kernel_rfl) (fun _ _ _ => Y.conv_iu ty3.u ty55.u rfl) rfl ?_
          refine WD.y 15 rfl (by kernel_rfl) (fun _ _ _ => Y.shl_uu rfl rfl) rfl ?_
          obtain ⟨d438, hd438, h⟩ := lt1 h
          refine WD.yE 16 rfl (by kernel_rfl) (fun _ _ _ => Y.assign rfl) (congrArg vu hd438.symm) rfl ?_
          refine WD.done_ (by kernel_rfl) ?_
          refine At.then ?_
          refine WC.seq ?_
          refine WC.seq ?_
          refine WC.region ?_
          refine WL.y (Y.move rfl) rfl ?_
          refine WL.y (Y.eql_u (b := 0) rfl rfl) rfl ?_
          refine WL.y (Y.move rfl) rfl ?_
          refine WL.cut 5 (σ := Unit) (fun _ w' => wd423 = w') (fun _ => [(2, Value.pointer (some ⟨p103, 0, none⟩)), (7, vu d438), (63, Value.bool ((decide (d438 = 0)) && (decide (c374 = 0))))]) ?_ ?_
          ·refine WL.part 58 rfl (fun hE442 => ?_) (fun hE442 => ?_)
           ·refine WL.ung rfl rfl ?_
            refine WL.y (Y.move rfl) rfl ?_
            refine WL.ung rfl rfl ?_
            refine WL.y (Y.nilCheck rfl) rfl ?_
            refine WL.ung rfl rfl ?_
            have hf443 := hb373.st hst428 rfl
            refine WL.y (Y.loadSc ty29 rfl rfl (hf443.cell 0 _ rfl)) rfl ?_
            refine WL.ung rfl rfl ?_
            refine WL.y (Y.eql_i rfl rfl) rfl ?_
            refine WL.y (Y.pick (b := true) rfl rfl) rfl ?_
            refine WL.ren (v' := Value.bool ((decide (d438 = 0)) && (decide (c374 = 0)))) 63 rfl (congrArg Value.bool (andT hE442)) ?_
            exact WL.nil (At.join () rfl (.cons rfl (.cons rfl (.cons rfl .nil))))
           ·refine WL.gS rfl rfl rfl rfl ?_
            refine WL.gS rfl rfl rfl rfl ?_
            refine WL.gS rfl rfl rfl rfl ?_
            refine WL.gS rfl rfl rfl rfl ?_
            refine WL.y (Y.pick (b := false) rfl rfl) rfl ?_
            refine WL.ren (v' := Value.bool ((decide (d438 = 0)) && (decide (c374 = 0)))) 63 rfl (congrArg Value.bool (andF hE442)) ?_
            exact WL.nil (At.join () rfl (.cons rfl (.cons rfl (.cons rfl .nil))))
          ·rintro _ _ rfl
           refine (show WL _ _ _ _ _ [(2, Value.pointer (some ⟨p103, 0, none⟩)), (7, vu d438), (63, Value.bool ((decide (d438 = 0)) && (decide (c374 = 0))))] _ from ?_)
           refine WL.nil ?_
           refine At.then ?_
           rcases cnd h with ⟨hc444, h⟩ | ⟨hc444, h⟩
           ·refine WC.condT' rfl hc444 ?_
            refine WC.region ?_
            refine WL.y (Y.move rfl) rfl ?_
            refine WL.y (Y.nilCheck rfl) rfl ?_
            have hf445 := hb373.st hst428 rfl
            refine WL.store (v := vi 3) (cells' := [vi 3]) ty29 rfl rfl hf445 rfl (Nat.le_of_ble_eq_true rfl) rfl rfl ?_
            intro wd446 hst447 hb448
            refine WL.nil ?_
            refine At.then ?_
            refine WC.seq ?_
            refine WC.region ?_
            refine WL.y (Y.move rfl) rfl ?_
            refine WL.y (Y.assign rfl) rfl ?_
            refine WL.nil ?_
            refine At.then ?_
            refine WC.ret ?_
            refine At.thenR ?_
            have hf449 := hf125.st hst182 rfl
            have hf450 := hf449.st hst227 rfl
            have hf451 := hf450.st hst261 rfl
            have hf452 := hf451.st hst329 rfl
            have hf453 := hf452.st hst384 rfl
            have hf454 := hf453.st hst428 rfl
            have hf455 := hf454.st hst447 rfl
            have hf456 := hf378.mono (imm_st hst428 rfl rfl)
            have hf457 := hf456.mono (imm_st hst447 rfl rfl)
            have hf458 := hb375.st hst428 rfl
            have hf459 := hf458.st hst447 rfl
            exact At.res (.inl rfl) rfl (.tmp rfl .nil) ⟨(a0.win.ahead, a0.win.size, c376, c379, c380, 3, d438, O425, v377), ⟨some1 h, (Stp.trans (Stp.up hst182 rfl) (Stp.trans (Stp.up hst227 rfl) (Stp.trans (Stp.up hst261 rfl) (Stp.trans (Stp.up hst329 rfl) (Stp.trans (Stp.up hst384 rfl) (Stp.trans (Stp.up hst428 rfl) (Stp.up hst447 rfl))))))), hf455, hf457, hf459, hb448⟩, rfl⟩
           ·refine WC.condF' rfl hc444 ?_
            refine WC.skip ?_
            refine At.then ?_
            refine WC.seq ?_
            refine WC.region ?_
            refine WL.y (Y.move rfl) rfl ?_
            refine WL.y (Y.assign rfl) rfl ?_
            refine WL.nil ?_
            refine At.then ?_
            refine WC.ret ?_
            refine At.thenR ?_
            have hf460 := hf125.st hst182 rfl
            have hf461 := hf460.st hst227 rfl
            have hf462 := hf461.st hst261 rfl
            have hf463 := hf462.st hst329 rfl
            have hf464 := hf463.st hst384 rfl
            have hf465 := hf464.st hst428 rfl
            have hf466 := hf378.mono (imm_st hst428 rfl rfl)
            have hf467 := hb375.st hst428 rfl
            have hf468 := hb373.st hst428 rfl
            exact At.res (.inl rfl) rfl (.tmp rfl .nil) ⟨(a0.win.ahead, a0.win.size, c376, c379, c380, c374, d438, O425, v377), ⟨some1 h, (Stp.trans (Stp.up hst182 rfl) (Stp.trans (Stp.up hst227 rfl) (Stp.trans (Stp.up hst261 rfl) (Stp.trans (Stp.up hst329 rfl) (Stp.trans (Stp.up hst384 rfl) (Stp.up hst428 rfl)))))), hf465, hf466, hf467, hf468⟩, rfl⟩
       ·refine WC.condF' rfl hc256 ?_
        refine WC.skip ?_
        refine At.then ?_
        refine WC.seq ?_
        refine WC.region ?_
        refine WL.y (Y.move rfl) rfl ?_
        refine WL.y (Y.move rfl) rfl ?_
        obtain ⟨p481, h, hk482⟩ := bnd h
        refine WL.callJ (vals := [Value.pointer (some ⟨b42, 0, none⟩), Value.pointer (some ⟨p103, 0, none⟩), vi 5]) (σ := (List UInt8 × Int × Int × Int × UInt64 × Own × Value)) (fun x w' => (x.1, x.2.1, x.2.2.1, x.2.2.2.1, x.2.2.2.2.1) = p481 ∧ Stp [15, 1002] O225 wd226 x.2.2.2.2.2.1 w' ∧ Sl Rep.b w' (imm x.2.2.2.2.2.1) x.2.2.2.2.2.2 x.1 ∧ Blk 1002 x.2.2.2.2.2.1 w' b42 58 [x.2.2.2.2.2.2, vi x.2.1, vi x.2.2.1] ∧ Blk 15 x.2.2.2.2.2.1 w' p103 29 [vi x.2.2.2.1]) (fun x => vu x.2.2.2.2.1) kok38 rfl rfl ?_ ?_
        ·refine Rets.enter Tryd.func38 rfl rfl ?_
         refine (show WC _ _ _ _ [(0, Value.pointer (some ⟨b42, 0, none⟩)), (1, Value.pointer (some ⟨p103, 0, none⟩)), (2, vi 5)] _ from ?_)
         refine WC.seq ?_
         refine WC.region ?_
         refine WL.y (Y.assign (v := vu 0) rfl) rfl ?_
         refine WL.nil ?_
         refine At.then ?_
         refine WC.seq ?_
         refine WC.region ?_
         refine WL.y (Y.move rfl) rfl ?_
         refine WL.y (Y.move rfl) rfl ?_
         obtain ⟨⟨r483, r484, r485⟩, hp486, h⟩ := bnd h
         refine WL.call (vals := [Value.pointer (some ⟨b42, 0, none⟩), vi 5]) kok42 rfl rfl (c_bitio_Reader_Take (A := imm O225) (a0 := (bitio_Reader.mk c217 c220 c221)) hf219 hb216.blk (fun k hk => imm_ne hb216.lab rfl k hk) hp486) ?_
         rintro vr492 wd491 ⟨z487, rfl, hm490, f488, f489⟩
         obtain ⟨O493, hold494, hnew495, hst496⟩ := adopt O225 (fun k => 1) [1002] hm490 (memB hb216.lab rfl)
         have hf497 : Sl Rep.b wd491 (imm O493) z487 r485.b := Sl.adoptI (O := O225) f488 (fun _ hk => hk) (fun _ _ => Nat.le_refl _) hold494 hnew495
         have hb498 : Blk 1002 O493 wd491 b42 58 [z487, vi r485.n, vi r485.at_] := Blk.adopt hb216 hold494 f489
         refine WL.y (Y.move rfl) rfl ?_
         refine WL.y (Y.extract rfl rfl) rfl ?_
         refine WL.y (Y.extract rfl rfl) rfl ?_
         refine WL.y (Y.assign rfl) rfl ?_
         refine WL.y (Y.assign rfl) rfl ?_
         refine WL.nil ?_
         refine At.then ?_
         refine WC.seq ?_
         refine WC.seq ?_
         refine WC.region ?_
         refine WL.y (Y.move rfl) rfl ?_
         refine WL.y (Y.not rfl) rfl ?_
         refine WL.y (Y.move rfl) rfl ?_
         refine WL.cut 5 (σ := Unit) (fun _ w' => wd491 = w') (fun _ => [(1, Value.pointer (some ⟨p103, 0, none⟩)), (7, vu r483), (22, Value.bool ((!r484) && (decide (c223 = 0))))]) ?_ ?_
         ·refine WL.part 17 rfl (fun hE499 => ?_) (fun hE499 => ?_)
          ·refine WL.ung rfl rfl ?_
           refine WL.y (Y.move rfl) rfl ?_
           refine WL.ung rfl rfl ?_
           refine WL.y (Y.nilCheck rfl) rfl ?_
           refine WL.ung rfl rfl ?_
           have hf500 := hb222.st hst496 rfl
           refine WL.y (Y.loadSc ty29 rfl rfl (hf500.cell 0 _ rfl)) rfl ?_
           refine WL.ung rfl rfl ?_
           refine WL.y (Y.eql_i rfl rfl) rfl ?_
           refine WL.y (Y.pick (b := true) rfl rfl) rfl ?_
           refine WL.ren (v' := Value.bool ((!r484) && (decide (c223 = 0)))) 22 rfl (congrArg Value.bool (andT hE499)) ?_
           exact WL.nil (At.join () rfl (.cons rfl (.cons rfl (.cons rfl .nil))))
          ·refine WL.gS rfl rfl rfl rfl ?_
           refine WL.gS rfl rfl rfl rfl ?_
           refine WL.gS rfl rfl rfl rfl ?_
           refine WL.gS rfl rfl rfl rfl ?_
           refine WL.y (Y.pick (b := false) rfl rfl) rfl ?_
           refine WL.ren (v' := Value.bool ((!r484) && (decide (c223 = 0)))) 22 rfl (congrArg Value.bool (andF hE499)) ?_
           exact WL.nil (At.join () rfl (.cons rfl (.cons rfl (.cons rfl .nil))))
         ·rintro _ _ rfl
          refine (show WL _ _ _ _ _ [(1, Value.pointer (some ⟨p103, 0, none⟩)), (7, vu r483), (22, Value.bool ((!r484) && (decide (c223 = 0))))] _ from ?_)
          refine WL.nil ?_
          refine At.then ?_
          rcases cnd h with ⟨hc501, h⟩ | ⟨hc501, h⟩
          ·refine WC.condT' rfl hc501 ?_
           refine WC.region ?_
           refine WL.y (Y.move rfl) rfl ?_
           refine WL.y (Y.nilCheck rfl) rfl ?_
           have hf502 := hb222.st hst496 rfl
           refine WL.store (v := vi 2) (cells' := [vi 2]) ty29 rfl rfl hf502 rfl (Nat.le_of_ble_eq_true rfl) rfl rfl ?_
           intro wd503 hst504 hb505
           refine WL.nil ?_
           refine At.then ?_
           refine WC.seq ?_
           refine WC.region ?_
           refine WL.y (Y.move rfl) rfl ?_
           refine WL.y (Y.assign rfl) rfl ?_
           refine WL.nil ?_
           refine At.then ?_
           refine WC.ret ?_
           have hf506 := hf497.mono (imm_st hst504 rfl rfl)
           have hf507 := hb498.st hst504 rfl
           exact At.res (.inl rfl) rfl (.tmp rfl .nil) ⟨(r485.b, r485.n, r485.at_, 2, r483, O493, z487), ⟨some1 h, (Stp.trans (Stp.up hst496 rfl) (Stp.up hst504 rfl)), hf506, hf507, hb505⟩, rfl⟩
          ·refine WC.condF' rfl hc501 ?_
           refine WC.skip ?_
           refine At.then ?_
           refine WC.seq ?_
           refine WC.region ?_
           refine WL.y (Y.move rfl) rfl ?_
           refine WL.y (Y.assign rfl) rfl ?_
           refine WL.nil ?_
           refine At.then ?_
           refine WC.ret ?_
           have hf508 := hb222.st hst496 rfl
           exact At.res (.inl rfl) rfl (.tmp rfl .nil) ⟨(r485.b, r485.n, r485.at_, c223, r483, O493, z487), ⟨some1 h, (Stp.up hst496 rfl), hf497, hb498, hf508⟩, rfl⟩
        ·rintro ⟨c470, c473, c474, c476, x477, O478, v471⟩ wd479 ⟨rfl, hst480, hf472, hb469, hb475⟩
         replace h := hk482
         try dsimp only at h hst480 hf472 hb469 hb475
         refine (show WL _ _ _ _ _ ((69, vu x477) :: _) _ from ?_)
         refine WL.y (Y.conv_ui ty23.u ty3.u rfl) rfl ?_
         refine WL.y (Y.build (vals := [(0, vi (w64 (x477.toNat : Int)))]) (cells := [vi (w64 (x477.toNat : Int)), vi 0]) (Fits.evalp rfl) (by kernel_rfl)) rfl ?_
         refine WL.alloc (O := O478) 16 [vi 0, vi 0] ty60 rfl rfl ?_
         intro p510 O511 wd512 hst513 hb509
         refine WL.store (v := Value.agg (List.toArray [vi (w64 (x477.toNat : Int)), vi 0])) (cells' := [vi (w64 (x477.toNat : Int)), vi 0]) ty60 rfl rfl hb509 rfl (Nat.le_of_ble_eq_true rfl) rfl rfl ?_
         intro wd514 hst515 hb516
         refine WL.nil ?_
         refine At.then ?_
         refine WC.seq ?_
         refine WC.region ?_
         refine WL.y (Y.move rfl) rfl ?_
         refine WL.y (Y.move rfl) rfl ?_
         obtain ⟨p529, h, hk530⟩ := bnd h
         refine WL.callJ (vals := [Value.pointer (some ⟨b42, 0, none⟩), Value.pointer (some ⟨p103, 0, none⟩), vi 6]) (σ := (List UInt8 × Int × Int × Int × UInt64 × Own × Value)) (fun x w' => (x.1, x.2.1, x.2.2.1, x.2.2.2.1, x.2.2.2.2.1) = p529 ∧ Stp [15, 1002] O511 wd514 x.2.2.2.2.2.1 w' ∧ Sl Rep.b w' (imm x.2.2.2.2.2.1) x.2.2.2.2.2.2 x.1 ∧ Blk 1002 x.2.2.2.2.2.1 w' b42 58 [x.2.2.2.2.2.2, vi x.2.1, vi x.2.2.1] ∧ Blk 15 x.2.2.2.2.2.1 w' p103 29 [vi x.2.2.2.1]) (fun x => vu x.2.2.2.2.1) kok38 rfl rfl ?_ ?_
         ·refine Rets.enter Tryd.func38 rfl rfl ?_
          refine (show WC _ _ _ _ [(0, Value.pointer (some ⟨b42, 0, none⟩)), (1, Value.pointer (some ⟨p103, 0, none⟩)), (2, vi 6)] _ from ?_)
          refine WC.seq ?_
          refine WC.region ?_
          refine WL.y (Y.assign (v := vu 0) rfl) rfl ?_
          refine WL.nil ?_
          refine At.then ?_
          refine WC.seq ?_
          refine WC.region ?_
          refine WL.y (Y.move rfl) rfl ?_
          refine WL.y (Y.move rfl) rfl ?_
          have hf531 := hb469.st hst513 rfl
          have hf532 := hf531.st hst515 rfl
          have hf533 := hf472.mono (imm_st hst513 rfl rfl)
          have hf534 := hf533.mono (imm_st hst515 rfl rfl)
          obtain ⟨⟨r535, r536, r537⟩, hp538, h⟩ := bnd h
          refine WL.call (vals := [Value.pointer (some ⟨b42, 0, none⟩), vi 6]) kok42 rfl rfl (c_bitio_Reader_Take (A := imm O511) (a0 := (bitio_Reader.mk c470 c473 c474)) hf534 hf532.blk (fun k hk => imm_ne hf532.lab rfl k hk) hp538) ?_
          rintro vr544 wd543 ⟨z539, rfl, hm542, f540, f541⟩
          obtain ⟨O545, hold546, hnew547, hst548⟩ := adopt O511 (fun k => 1) [1002] hm542 (memB hf532.lab rfl)
          have hf549 : Sl Rep.b wd543 (imm O545) z539 r537.b := Sl.adoptI (O := O511) f540 (fun _ hk => hk) (fun _ _ => Nat.le_refl _) hold546 hnew547
          have hb550 : Blk 1002 O545 wd543 b42 58 [z539, vi r537.n, vi r537.at_] := Blk.adopt hf532 hold546 f541
          refine WL.y (Y.move rfl) rfl ?_
          refine WL.y (Y.extract rfl rfl) rfl ?_
          refine WL.y (Y.extract rfl rfl) rfl ?_
          refine WL.y (Y.assign rfl) rfl ?_
          refine WL.y (Y.assign rfl) rfl ?_
          refine WL.nil ?_
          refine At.then ?_
          refine WC.seq ?_
          refine WC.seq ?_
          refine WC.region ?_
          refine WL.y (Y.move rfl) rfl ?_
          refine WL.y (Y.not rfl) rfl ?_
          refine WL.y (Y.move rfl) rfl ?_
          refine WL.cut 5 (σ := Unit) (fun _ w' => wd543 = w') (fun _ => [(1, Value.pointer (some ⟨p103, 0, none⟩)), (7, vu r535), (22, Value.bool ((!r536) && (decide (c476 = 0))))]) ?_ ?_
          ·refine WL.part 17 rfl (fun hE551 => ?_) (fun hE551 => ?_)
           ·refine WL.ung rfl rfl ?_
            refine WL.y (Y.move rfl) rfl ?_
            refine WL.ung rfl rfl ?_
            refine WL.y (Y.nilCheck rfl) rfl ?_
            refine WL.ung rfl rfl ?_
            have hf552 := hb475.st hst513 rfl
            have hf553 := hf552.st hst515 rfl
            have hf554 := hf553.st hst548 rfl
            refine WL.y (Y.loadSc ty29 rfl rfl (hf554.cell 0 _ rfl)) rfl ?_
            refine WL.ung rfl rfl ?_
            refine WL.y (Y.eql_i rfl rfl) rfl ?_
            refine WL.y (Y.pick (b := true) rfl rfl) rfl ?_
            refine WL.ren (v' := Value.bool ((!r536) && (decide (c476 = 0)))) 22 rfl (congrArg Value.bool (andT hE551)) ?_
            exact WL.nil (At.join () rfl (.cons rfl (.cons rfl (.cons rfl .nil))))
           ·refine WL.gS rfl rfl rfl rfl ?_
            refine WL.gS rfl rfl rfl rfl ?_
            refine WL.gS rfl rfl rfl rfl ?_
            refine WL.gS rfl rfl rfl rfl ?_
            refine WL.y (Y.pick (b := false) rfl rfl) rfl ?_
            refine WL.ren (v' := Value.bool ((!r536) && (decide (c476 = 0)))) 22 rfl (congrArg Value.bool (andF hE551)) ?_
            exact WL.nil (At.join () rfl (.cons rfl (.cons rfl (.cons rfl .nil))))
          ·rintro _ _ rfl
           refine (show WL _ _ _ _ _ [(1, Value.pointer (some ⟨p103, 0, none⟩)), (7, vu r535), (22, Value.bool ((!r536) && (decide (c476 = 0))))] _ from ?_)
           refine WL.nil ?_
           refine At.then ?_
           rcases cnd h with ⟨hc555, h⟩ | ⟨hc555, h⟩
           ·refine WC.condT' rfl hc555 ?_
            refine WC.region ?_
            refine WL.y (Y.move rfl) rfl ?_
            refine WL.y (Y.nilCheck rfl) rfl ?_
            have hf556 := hb475.st hst513 rfl
            have hf557 := hf556.st hst515 rfl
            have hf558 := hf557.st hst548 rfl
            refine WL.store (v := vi 2) (cells' := [vi 2]) ty29 rfl rfl hf558 rfl (Nat.le_of_ble_eq_true rfl) rfl rfl ?_
            intro wd559 hst560 hb561
            refine WL.nil ?_
            refine At.then ?_
            refine WC.seq ?_
            refine WC.region ?_
            refine WL.y (Y.move rfl) rfl ?_
            refine WL.y (Y.assign rfl) rfl ?_
            refine WL.nil ?_
            refine At.then ?_
            refine WC.ret ?_
            have hf562 := hf549.mono (imm_st hst560 rfl rfl)
            have hf563 := hb550.st hst560 rfl
            exact At.res (.inl rfl) rfl (.tmp rfl .nil) ⟨(r537.b, r537.n, r537.at_, 2, r535, O545, z539), ⟨some1 h, (Stp.trans (Stp.up hst548 rfl) (Stp.up hst560 rfl)), hf562, hf563, hb561⟩, rfl⟩
           ·refine WC.condF' rfl hc555 ?_
            refine WC.skip ?_
            refine At.then ?_
            refine WC.seq ?_
            refine WC.region ?_
            refine WL.y (Y.move rfl) rfl ?_
            refine WL.y (Y.assign rfl) rfl ?_
            refine WL.nil ?_
            refine At.then ?_
            refine WC.ret ?_
            have hf564 := hb475.st hst513 rfl
            have hf565 := hf564.st hst515 rfl
            have hf566 := hf565.st hst548 rfl
            exact At.res (.inl rfl) rfl (.tmp rfl .nil) ⟨(r537.b, r537.n, r537.at_, c476, r535, O545, z539), ⟨some1 h, (Stp.up hst548 rfl), hf549, hb550, hf566⟩, rfl⟩
         ·rintro ⟨c518, c521, c522, c524, x525, O526, v519⟩ wd527 ⟨rfl, hst528, hf520, hb517, hb523⟩
          replace h := hk530
          try dsimp only at h hst528 hf520 hb517 hb523
          refine (show WL _ _ _ _ _ ((74, vu x525) :: _) _ from ?_)
          refine WL.y (Y.conv_ui ty23.u ty3.u rfl) rfl ?_
          refine WL.y (Y.add_i rfl rfl) rfl ?_
          refine WL.y (Y.fieldAddr fo60_1 rfl) rfl ?_
          obtain ⟨t567, ht567, h⟩ := lt1 h
          refine WL.ren 76 rfl (congrArg vi ht567.symm) ?_
          have hf568 := hb516.st hst528 rfl
          refine WL.store (v := vi t567) (cells' := [vi (w64 (x477.toNat : Int)), vi t567]) ty3 rfl rfl hf568 rfl (Nat.le_of_ble_eq_true rfl) rfl rfl ?_
          intro wd569 hst570 hb571
          refine WL.nil ?_
          refine At.then ?_
          refine WC.seq ?_
          obtain ⟨p577, h, hk578⟩ := bnd h
          refine WC.join (σ := (Int × Own)) (fun x w' => x.1 = p577 ∧ Stp [15] O526 wd569 x.2 w' ∧ Blk 15 x.2 w' p103 29 [vi x.1]) (fun x => [(0, Value.pointer (some ⟨b40, 0, none⟩)), (1, Value.pointer (some ⟨b42, 0, none⟩)), (2, Value.pointer (some ⟨p103, 0, none⟩)), (8, Value.pointer (some ⟨p510, 0, none⟩))]) ?_ ?_
          ·refine WC.seq ?_
           refine WC.region ?_
           refine WL.y (Y.move rfl) rfl ?_
           refine WL.y (Y.nilCheck rfl) rfl ?_
           have hf579 := hb523.st hst570 rfl
           refine WL.y (Y.loadSc ty29 rfl rfl (hf579.cell 0 _ rfl)) rfl ?_
           refine WL.y (Y.eql_i rfl rfl) rfl ?_
           refine WL.y (Y.move rfl) rfl ?_
           obtain ⟨p584, h, hk585⟩ := bnd h
           refine WL.cut 4 (σ := (Bool × Own)) (fun x w' => x.1 = p584 ∧ Stp [] O526 wd569 x.2 w') (fun x => [(0, Value.pointer (some ⟨b40, 0, none⟩)), (1, Value.pointer (some ⟨b42, 0, none⟩)), (2, Value.pointer (some ⟨p103, 0, none⟩)), (8, Value.pointer (some ⟨p510, 0, none⟩)), (86, Value.bool x.1)]) ?_ ?_
           ·rcases cnd h with ⟨hE586, h⟩ | ⟨hE586, h⟩
            ·refine WL.ren 82 rfl (congrArg Value.bool hE586) ?_
             refine WL.ung rfl rfl ?_
             refine WL.y (Y.loadAg ty60 rfl rfl (hb571.cells 0 [vi (w64 (x477.toNat : Int)), vi t567] rfl) rfl) rfl ?_
             refine WL.ung rfl rfl ?_
             obtain ⟨r587, hp588, h⟩ := bnd h
             refine WL.call (vals := [Value.agg (List.toArray [vi (w64 (x477.toNat : Int)), vi t567])]) kok32 rfl rfl (c_xor_window_behind (a0 := (xor_window.mk (w64 (x477.toNat : Int)) t567)) hp588) ?_
             rintro vr591 wd590 ⟨rfl, hm589⟩
             obtain ⟨O592, hold593, hnew594, hst595⟩ := adoptE O526 (fun k => 1) hm589
             refine WL.ung rfl rfl ?_
             refine WL.y (Y.lss_i rfl rfl) rfl ?_
             refine WL.y (Y.pick (b := true) rfl rfl) rfl ?_
             exact WL.nil (At.join (σ := (Bool × Own)) (decide (r587 < 0), O592) ⟨some1 h, (Stp.up hst595 rfl)⟩ (.cons rfl (.cons rfl (.cons rfl (.cons rfl (.cons rfl .nil))))))
            ·refine WL.ren 82 rfl (congrArg Value.bool hE586) ?_
             refine WL.gS rfl rfl rfl rfl ?_
             refine WL.gS rfl rfl rfl rfl ?_
             refine WL.gS rfl rfl rfl rfl ?_
             refine WL.y (Y.pick (b := false) rfl rfl) rfl ?_
             exact WL.nil (At.join (σ := (Bool × Own)) (false, O526) ⟨some1 h, (Stp.refl _ _ _)⟩ (.cons rfl (.cons rfl (.cons rfl (.cons rfl (.cons rfl .nil))))))
           ·rintro ⟨x580, O581⟩ wd582 ⟨rfl, hst583⟩
            replace h := hk585
            try dsimp only at h hst583
            refine (show WL _ _ _ _ _ [(0, Value.pointer (some ⟨b40, 0, none⟩)), (1, Value.pointer (some ⟨b42, 0, none⟩)), (2, Value.pointer (some ⟨p103, 0, none⟩)), (8, Value.pointer (some ⟨p510, 0, none⟩)), (86, Value.bool x580)] _ from ?_)
            refine WL.nil ?_
            refine At.then ?_
            rcases cnd h with ⟨hc596, h⟩ | ⟨hc596, h⟩
            ·refine WC.condT' rfl hc596 ?_
             refine WC.region ?_
             refine WL.y (Y.move rfl) rfl ?_
             refine WL.y (Y.nilCheck rfl) rfl ?_
             have hf597 := hf579.st hst583 rfl
             refine WL.store (v := vi 3) (cells' := [vi 3]) ty29 rfl rfl hf597 rfl (Nat.le_of_ble_eq_true rfl) rfl rfl ?_
             intro wd598 hst599 hb600
             refine WL.nil ?_
             exact At.join (σ := (Int × Own)) (3, O581) ⟨some1 h, (Stp.trans (Stp.up hst583 rfl) (Stp.up hst599 rfl)), hb600⟩ (.cons rfl (.cons rfl (.cons rfl (.cons rfl .nil))))
            ·refine WC.condF' rfl hc596 ?_
             refine WC.skip ?_
             have hf601 := hf579.st hst583 rfl
             exact At.join (σ := (Int × Own)) (c524, O581) ⟨some1 h, (Stp.up hst583 rfl), hf601⟩ (.cons rfl (.cons rfl (.cons rfl (.cons rfl .nil))))
          ·rintro ⟨c573, O574⟩ wd575 ⟨rfl, hst576, hb572⟩
           replace h := hk578
           try dsimp only at h hst576 hb572
           refine (show At _ _ _ [(0, Value.pointer (some ⟨b40, 0, none⟩)), (1, Value.pointer (some ⟨b42, 0, none⟩)), (2, Value.pointer (some ⟨p103, 0, none⟩)), (8, Value.pointer (some ⟨p510, 0, none⟩))] _ from ?_)
           refine At.then ?_
           refine WC.seq ?_
           refine WC.region ?_
           refine WL.y (Y.move rfl) rfl ?_
           refine WL.y (Y.move rfl) rfl ?_
           refine WL.y (Y.fieldAddr fo60_1 rfl) rfl ?_
           have hf602 := hb571.st hst576 rfl
           refine WL.y (Y.loadSc ty3 rfl rfl (hf602.cell 1 _ rfl)) rfl ?_
           obtain ⟨p615, h, hk616⟩ := bnd h
           refine WL.callJ (vals := [Value.pointer (some ⟨b42, 0, none⟩), Value.pointer (some ⟨p103, 0, none⟩), vi t567]) (σ := (Int × List UInt8 × Int × Int × UInt64 × Own × Value)) (fun x w' => (x.1, x.2.1, x.2.2.1, x.2.2.2.1, x.2.2.2.2.1) = p615 ∧ Stp [15, 1002] O574 wd575 x.2.2.2.2.2.1 w' ∧ Blk 15 x.2.2.2.2.2.1 w' p103 29 [vi x.1] ∧ Sl Rep.b w' (imm x.2.2.2.2.2.1) x.2.2.2.2.2.2 x.2.1 ∧ Blk 1002 x.2.2.2.2.2.1 w' b42 58 [x.2.2.2.2.2.2, vi x.2.2.1, vi x.2.2.2.1]) (fun x => vu x.2.2.2.2.1) kok38 rfl rfl ?_ ?_
           ·refine Rets.enter Tryd.func38 rfl rfl ?_
            refine (show WC _ _ _ _ [(0, Value.pointer (some ⟨b42, 0, none⟩)), (1, Value.pointer (some ⟨p103, 0, none⟩)), (2, vi t567)] _ from ?_)
            refine WC.seq ?_
            refine WC.region ?_
            refine WL.y (Y.assign (v := vu 0) rfl) rfl ?_
            refine WL.nil ?_
            refine At.then ?_
            refine WC.seq ?_
            refine WC.region ?_
            refine WL.y (Y.move rfl) rfl ?_
            refine WL.y (Y.move rfl) rfl ?_
            have hf617 := hb517.st hst570 rfl
            have hf618 := hf617.st hst576 rfl
            have hf619 := hf520.mono (imm_st hst570 rfl rfl)
            have hf620 := hf619.mono (imm_st hst576 rfl rfl)
            obtain ⟨⟨r621, r622, r623⟩, hp624, h⟩ := bnd h
            refine WL.call (vals := [Value.pointer (some ⟨b42, 0, none⟩), vi t567]) kok42 rfl rfl (c_bitio_Reader_Take (A := imm O574) (a0 := (bitio_Reader.mk c518 c521 c522)) hf620 hf618.blk (fun k hk => imm_ne hf618.lab rfl k hk) hp624) ?_
            rintro vr630 wd629 ⟨z625, rfl, hm628, f626, f627⟩
            obtain ⟨O631, hold632, hnew633, hst634⟩ := adopt O574 (fun k => 1) [1002] hm628 (memB hf618.lab rfl)
            have hf635 : Sl Rep.b wd629 (imm O631) z625 r623.b := Sl.adoptI (O := O574) f626 (fun _ hk => hk) (fun _ _ => Nat.le_refl _) hold632 hnew633
            have hb636 : Blk 1002 O631 wd629 b42 58 [z625, vi r623.n, vi r623.at_] := Blk.adopt hf618 hold632 f627
            refine WL.y (Y.move rfl) rfl ?_
            refine WL.y (Y.extract rfl rfl) rfl ?_
            refine WL.y (Y.extract rfl rfl) rfl ?_
            refine WL.y (Y.assign rfl) rfl ?_
            refine WL.y (Y.assign rfl) rfl ?_
            refine WL.nil ?_
            refine At.then ?_
            refine WC.seq ?_
            refine WC.seq ?_
            refine WC.region ?_
            refine WL.y (Y.move rfl) rfl ?_
            refine WL.y (Y.not rfl) rfl ?_
            refine WL.y (Y.move rfl) rfl ?_
            refine WL.cut 5 (σ := Unit) (fun _ w' => wd629 = w') (fun _ => [(1, Value.pointer (some ⟨p103, 0, none⟩)), (7, vu r621), (22, Value.bool ((!r622) && (decide (c573 = 0))))]) ?_ ?_
            ·refine WL.part 17 rfl (fun hE637 => ?_) (fun hE637 => ?_)
             ·refine WL.ung rfl rfl ?_
              refine WL.y (Y.move rfl) rfl ?_
              refine WL.ung rfl rfl ?_
              refine WL.y (Y.nilCheck rfl) rfl ?_
              refine WL.ung rfl rfl ?_
              have hf638 := hb572.st hst634 rfl
              refine WL.y (Y.loadSc ty29 rfl rfl (hf638.cell 0 _ rfl)) rfl ?_
              refine WL.ung rfl rfl ?_
              refine WL.y (Y.eql_i rfl rfl) rfl ?_
              refine WL.y (Y.pick (b := true) rfl rfl) rfl ?_
              refine WL.ren (v' := Value.bool ((!r622) && (decide (c573 = 0)))) 22 rfl (congrArg Value.bool (andT hE637)) ?_
              exact WL.nil (At.join () rfl (.cons rfl (.cons rfl (.cons rfl .nil))))
             ·refine WL.gS rfl rfl rfl rfl ?_
              refine WL.gS rfl rfl rfl rfl ?_
              refine WL.gS rfl rfl rfl rfl ?_
              refine WL.gS rfl rfl rfl rfl ?_
              refine WL.y (Y.pick (b := false) rfl rfl) rfl ?_
              refine WL.ren (v' := Value.bool ((!r622) && (decide (c573 = 0)))) 22 rfl (congrArg Value.bool (andF hE637)) ?_
              exact WL.nil (At.join () rfl (.cons rfl (.cons rfl (.cons rfl .nil))))
            ·rintro _ _ rfl
             refine (show WL _ _ _ _ _ [(1, Value.pointer (some ⟨p103, 0, none⟩)), (7, vu r621), (22, Value.bool ((!r622) && (decide (c573 = 0))))] _ from ?_)
             refine WL.nil ?_
             refine At.then ?_
             rcases cnd h with ⟨hc639, h⟩ | ⟨hc639, h⟩
             ·refine WC.condT' rfl hc639 ?_
              refine WC.region ?_
              refine WL.y (Y.move rfl) rfl ?_
              refine WL.y (Y.nilCheck rfl) rfl ?_
              have hf640 := hb572.st hst634 rfl
              refine WL.store (v := vi 2) (cells' := [vi 2]) ty29 rfl rfl hf640 rfl (Nat.le_of_ble_eq_true rfl) rfl rfl ?_
              intro wd641 hst642 hb643
              refine WL.nil ?_
              refine At.then ?_
              refine WC.seq ?_
              refine WC.region ?_
              refine WL.y (Y.move rfl) rfl ?_
              refine WL.y (Y.assign rfl) rfl ?_
              refine WL.nil ?_
              refine At.then ?_
              refine WC.ret ?_
              have hf644 := hf635.mono (imm_st hst642 rfl rfl)
              have hf645 := hb636.st hst642 rfl
              exact At.res (.inl rfl) rfl (.tmp rfl .nil) ⟨(2, r623.b, r623.n, r623.at_, r621, O631, z625), ⟨some1 h, (Stp.trans (Stp.up hst634 rfl) (Stp.up hst642 rfl)), hb643, hf644, hf645⟩, rfl⟩
             ·refine WC.condF' rfl hc639 ?_
              refine WC.skip ?_
              refine At.then ?_
              refine WC.seq ?_
              refine WC.region ?_
              refine WL.y (Y.move rfl) rfl ?_
              refine WL.y (Y.assign rfl) rfl ?_
              refine WL.nil ?_
              refine At.then ?_
              refine WC.ret ?_
              have hf646 := hb572.st hst634 rfl
              exact At.res (.inl rfl) rfl (.tmp rfl .nil) ⟨(c573, r623.b, r623.n, r623.at_, r621, O631, z625), ⟨some1 h, (Stp.up hst634 rfl), hf646, hf635, hb636⟩, rfl⟩
           ·rintro ⟨c604, c606, c609, c610, x611, O612, v607⟩ wd613 ⟨rfl, hst614, hb603, hf608, hb605⟩
            replace h := hk616
            try dsimp only at h hst614 hb603 hf608 hb605
            refine (show WL _ _ _ _ _ ((93, vu x611) :: _) _ from ?_)
            refine WL.y (Y.assign rfl) rfl ?_
            refine WL.nil ?_
            refine At.then ?_
            refine WC.seq ?_
            refine WC.seq ?_
            refine WC.region ?_
            refine WL.y (Y.move rfl) rfl ?_
            refine WL.y (Y.nilCheck rfl) rfl ?_
            refine WL.y (Y.loadSc ty29 rfl rfl (hb603.cell 0 _ rfl)) rfl ?_
            refine WL.y (Y.neq_i rfl rfl) rfl ?_
            refine WL.nil ?_
            refine At.then ?_
            rcases cnd h with ⟨hc647, h⟩ | ⟨hc647, h⟩
            ·refine WC.condT' rfl hc647 ?_
             refine WC.seq ?_
             refine WC.region ?_
             refine WL.y (Y.assign (v := vu 0) rfl) rfl ?_
             refine WL.nil ?_
             refine At.then ?_
             refine WC.ret ?_
             refine At.thenR ?_
             have hf648 := hf125.st hst182 rfl
             have hf649 := hf648.st hst227 rfl
             have hf650 := hf649.st hst480 rfl
             have hf651 := hf650.st hst513 rfl
             have hf652 := hf651.st hst515 rfl
             have hf653 := hf652.st hst528 rfl
             have hf654 := hf653.st hst570 rfl
             have hf655 := hf654.st hst576 rfl
             have hf656 := hf655.st hst614 rfl
             exact At.res (.inl rfl) rfl (.tmp rfl .nil) ⟨(a0.win.ahead, a0.win.size, c606, c609, c610, c604, 0, O612, v607), ⟨some1 h, (Stp.trans (Stp.up hst182 rfl) (Stp.trans (Stp.up hst227 rfl) (Stp.trans (Stp.up hst480 rfl) (Stp.trans (Stp.up hst513 rfl) (Stp.trans (Stp.up hst515 rfl) (Stp.trans (Stp.up hst528 rfl) (Stp.trans (Stp.up hst570 rfl) (Stp.trans (Stp.up hst576 rfl) (Stp.up hst614 rfl))))))))), hf656, hf608, hb605, hb603⟩, rfl⟩
            ·refine WC.condF' rfl hc647 ?_
             refine WC.skip ?_
             refine At.then ?_
             refine WC.seq ?_
             refine WC.region ?_
             refine WL.y (Y.move rfl) rfl ?_
             have hf657 := hf602.st hst614 rfl
             refine WL.y (Y.loadAg ty60 rfl rfl (hf657.cells 0 [vi (w64 (x477.toNat : Int)), vi t567] rfl) rfl) rfl ?_
             obtain ⟨r658, hp659, h⟩ := bnd h
             refine WL.call (vals := [Value.agg (List.toArray [vi (w64 (x477.toNat : Int)), vi t567])]) kok32 rfl rfl (c_xor_window_behind (a0 := (xor_window.mk (w64 (x477.toNat : Int)) t567)) hp659) ?_
             rintro vr662 wd661 ⟨rfl, hm660⟩
             obtain ⟨O663, hold664, hnew665, hst666⟩ := adoptE O612 (fun k => 1) hm660
             refine WL.y (Y.conv_iu ty3.u ty55.u rfl) rfl ?_
             refine WL.y (Y.shl_uu rfl rfl) rfl ?_
             obtain ⟨d667, hd667, h⟩ := lt1 h
             refine WL.yE (Y.assign rfl) (congrArg vu hd667.symm) rfl ?_
             refine WL.nil ?_
             refine At.then ?_
             refine WC.seq ?_
             obtain ⟨p673, h, hk674⟩ := bnd h
             refine WC.join (σ := (Int × Own)) (fun x w' => x.1 = p673 ∧ Stp [15] O663 wd661 x.2 w' ∧ Blk 15 x.2 w' p103 29 [vi x.1]) (fun x => [(0, Value.pointer (some ⟨b40, 0, none⟩)), (8, Value.pointer (some ⟨p510, 0, none⟩)), (9, vu d667)]) ?_ ?_
             ·refine WC.seq ?_
              refine WC.drawH [] [0, 1, 2, 3, 4, 5, 6, 7, 8, 9, 10, 11, 12, 13, 14, 15] O663 16 fmix rfl (by kernel_rfl) ?_
              intro wd675 hst676
              refine WD.y 0 rfl (by kernel_rfl) (fun _ _ _ => Y.move rfl) rfl ?_
              refine WD.y 1 rfl (by kernel_rfl) (fun _ _ _ => Y.eql_u (b := 0) rfl rfl) rfl ?_
              refine WD.y 2 rfl (by kernel_rfl) (fun _ _ _ => Y.move rfl) rfl ?_
              obtain ⟨p690, h, hk691⟩ := bnd h
              refine WD.join (σ := (Bool × Own)) (f' := 8) [7, 6, 4, 5, 3, 2, 1, 0] (fun x O' w' => x.1 = p690 ∧ Stp [] O663 wd675 x.2 w' ∧ x.2 = O') (fun x => [(0, Value.pointer (some ⟨b40, 0, none⟩)), (2, Value.pointer (some ⟨p103, 0, none⟩)), (8, Value.pointer (some ⟨p510, 0, none⟩)), (9, vu d667), (110, Value.bool x.1)]) (fun hJ692 => ?_) ?_
              ·rcases cnd h with ⟨hE693, h⟩ | ⟨hE693, h⟩
               ·refine WD.ren 105 rfl (congrArg Value.bool hE693) ?_
                refine WD.gS 3 rfl (by kernel_rfl) rfl rfl rfl rfl ?_
                refine WD.gS 5 rfl (by kernel_rfl) rfl rfl rfl rfl ?_
                refine WD.heavy 4 rfl (by kernel_rfl) ?_
                refine WL.gS rfl rfl rfl rfl ?_
                refine WL.nil ?_
                refine At.dq (Stp.refl _ _ _) ?_
                refine WD.gS 6 rfl (by kernel_rfl) rfl rfl rfl rfl ?_
                refine WD.y 7 rfl (by kernel_rfl) (fun _ _ _ => Y.pick (b := true) rfl rfl) rfl ?_
                refine WD.ren 105 rfl (congrArg Value.bool hE693.symm) ?_
                exact hJ692 (true, O663) _ _ _ ⟨some1 h, (Stp.refl _ _ _), rfl⟩ (.cons rfl (.cons rfl (.cons rfl (.cons rfl (.cons rfl .nil)))))
               ·refine WD.ren 105 rfl (congrArg Value.bool hE693) ?_
                refine WD.gT 3 rfl (by kernel_rfl) rfl rfl (fun _ _ _ => Y.move rfl) rfl ?_
                refine WD.gT 5 rfl (by kernel_rfl) rfl rfl (fun wd701 O700 hst702 => have hf703 := hf657.st hst666 rfl; have hf704 := hf703.st hst676 rfl; have hf705 := hf704.st hst702 rfl; Y.loadAg ty60 rfl rfl (hf705.cells 0 [vi (w64 (x477.toNat : Int)), vi t567] rfl) rfl) rfl ?_
                refine WD.heavy 4 rfl (by kernel_rfl) ?_
                refine WL.ung rfl rfl ?_
                have hf706 := hG15.st hst17 rfl
                have hf707 := hf706.st hst46 rfl
                have hf708 := hf707.st hst89 rfl
                have hf709 := hf708.st hst100 rfl
                have hf710 := hf709.st hst106 rfl
                have hf711 := hf710.st hst182 rfl
                have hf712 := hf711.st hst227 rfl
                have hf713 := hf712.st hst480 rfl
                have hf714 := hf713.st hst513 rfl
                have hf715 := hf714.st hst515 rfl
                have hf716 := hf715.st hst528 rfl
                have hf717 := hf716.st hst570 rfl
                have hf718 := hf717.st hst576 rfl
                have hf719 := hf718.st hst614 rfl
                have hf720 := hf719.st hst666 rfl
                have hf721 := hf720.st hst676 rfl
                obtain ⟨r722, hp723, h⟩ := bnd h
                refine WL.call (vals := [vu d667]) kok33 rfl rfl (c_xor_around (A := fun _ => True) hf721.at_ trivial hp723) ?_
                rintro vr726 wd725 ⟨rfl, hm724⟩
                obtain ⟨O727, hold728, hnew729, hst730⟩ := adoptE O663 (fun k => 1) hm724
                refine WL.nil ?_
                refine At.dq (Stp.up hst730 rfl) ?_
                refine WD.gT 6 rfl (by kernel_rfl) rfl rfl (fun _ _ _ => Y.neq_ag agok60 rfl rfl (EqF.cons (by decide) (fun w => run_part_plain w (by kernel_rfl) rfl) (fun w => run_part_plain w (by kernel_rfl) rfl) (EqV.i (a := r722.ahead) (b := w64 (x477.toNat : Int)) ty3.u) (EqF.cons (by decide) (fun w => run_part_plain w (by kernel_rfl) rfl) (fun w => run_part_plain w (by kernel_rfl) rfl) (EqV.i (a := r722.size) (b := t567) ty3.u) EqF.nil))) rfl ?_
                refine WD.y 7 rfl (by kernel_rfl) (fun _ _ _ => Y.pick (b := false) rfl rfl) rfl ?_
                refine WD.ren 105 rfl (congrArg Value.bool hE693.symm) ?_
                exact hJ692 ((!(decide (r722.ahead = w64 (x477.toNat : Int)) && (decide (r722.size = t567) && true))), O727) _ _ _ ⟨some1 h, (Stp.up hst730 rfl), rfl⟩ (.cons rfl (.cons rfl (.cons rfl (.cons rfl (.cons rfl .nil)))))
              ·rintro ⟨x686, O687⟩ _ wd688 ⟨rfl, hst689, rfl⟩
               replace h := hk691
               try dsimp only at h hst689
               refine (show WD _ _ _ _ _ _ _ _ [(0, Value.pointer (some ⟨b40, 0, none⟩)), (2, Value.pointer (some ⟨p103, 0, none⟩)), (8, Value.pointer (some ⟨p510, 0, none⟩)), (9, vu d667), (110, Value.bool x686)] _ _ from ?_)
               refine WD.y 8 rfl (by kernel_rfl) (fun _ _ _ => Y.move rfl) rfl ?_
               obtain ⟨p744, h, hk745⟩ := bnd h
               refine WD.join (σ := (Bool × Own)) (f' := 0) [15, 14, 13, 12, 11, 10, 9, 8, 7, 6, 4, 5, 3, 2, 1, 0] (fun x O' w' => x.1 = p744 ∧ Stp [] O687 wd688 x.2 w' ∧ x.2 = O') (fun x => [(0, Value.pointer (some ⟨b40, 0, none⟩)), (2, Value.pointer (some ⟨p103, 0, none⟩)), (8, Value.pointer (some ⟨p510, 0, none⟩)), (9, vu d667), (118, Value.bool x.1)]) (fun hJ746 => ?_) ?_
               ·rcases cnd h with ⟨hE747, h⟩ | ⟨hE747, h⟩
                ·refine WD.ren 111 rfl (congrArg Value.bool hE747) ?_
                 refine WD.gS 9 rfl (by kernel_rfl) rfl rfl rfl rfl ?_
                 refine WD.gS 10 rfl (by kernel_rfl) rfl rfl rfl rfl ?_
                 refine WD.gS 11 rfl (by kernel_rfl) rfl rfl rfl rfl ?_
                 refine WD.gS 12 rfl (by kernel_rfl) rfl rfl rfl rfl ?_
                 refine WD.gS 13 rfl (by kernel_rfl) rfl rfl rfl rfl ?_
                 refine WD.heavy 14 rfl (by kernel_rfl) ?_
                 refine WL.gS rfl rfl rfl rfl ?_
                 refine WL.nil ?_
                 refine At.dq (Stp.refl _ _ _) ?_
                 refine WD.y 15 rfl (by kernel_rfl) (fun _ _ _ => Y.pick (b := true) rfl rfl) rfl ?_
                 refine WD.ren 111 rfl (congrArg Value.bool hE747.symm) ?_
                 exact hJ746 (true, O687) _ _ _ ⟨some1 h, (Stp.refl _ _ _), rfl⟩ (.cons rfl (.cons rfl (.cons rfl (.cons rfl (.cons rfl .nil)))))
                ·refine WD.ren 111 rfl (congrArg Value.bool hE747) ?_
                 refine WD.gT 9 rfl (by kernel_rfl) rfl rfl (fun _ _ _ => Y.move rfl) rfl ?_
                 refine WD.gT 10 rfl (by kernel_rfl) rfl rfl (fun _ _ _ => Y.nilCheck rfl) rfl ?_
                 refine WD.gT 11 rfl (by kernel_rfl) rfl rfl (fun _ _ _ => Y.fieldAddr fo62_2 rfl) rfl ?_
                 refine WD.gT 12 rfl (by kernel_rfl) rfl rfl (fun wd761 O760 hst762 => have hf763 := hf125.st hst182 rfl; have hf764 := hf763.st hst227 rfl; have hf765 := hf764.st hst480 rfl; have hf766 := hf765.st hst513 rfl; have hf767 := hf766.st hst515 rfl; have hf768 := hf767.st hst528 rfl; have hf769 := hf768.st hst570 rfl; have hf770 := hf769.st hst576 rfl; have hf771 := hf770.st hst614 rfl; have hf772 := hf771.st hst666 rfl; have hf773 := hf772.st hst676 rfl; have hf774 := hf773.st hst689 rfl; have hf775 := hf774.st hst762 rfl; Y.loadAg ty60 rfl rfl (hf775.cells 2 [vi a0.win.ahead, vi a0.win.size] rfl) rfl) rfl ?_
                 refine WD.gT 13 rfl (by kernel_rfl) rfl rfl (fun _ _ _ => Y.move rfl) rfl ?_
                 refine WD.heavy 14 rfl (by kernel_rfl) ?_
                 refine WL.ung rfl rfl ?_
                 have hf779 := hG14.st hst17 rfl
                 have hf780 := hf779.st hst46 rfl
                 have hf781 := hf780.st hst89 rfl
                 have hf782 := hf781.st hst100 rfl
                 have hf783 := hf782.st hst106 rfl
                 have hf784 := hf783.st hst182 rfl
                 have hf785 := hf784.st hst227 rfl
                 have hf786 := hf785.st hst480 rfl
                 have hf787 := hf786.st hst513 rfl
                 have hf788 := hf787.st hst515 rfl
                 have hf789 := hf788.st hst528 rfl
                 have hf790 := hf789.st hst570 rfl
                 have hf791 := hf790.st hst576 rfl
                 have hf792 := hf791.st hst614 rfl
                 have hf793 := hf792.st hst666 rfl
                 have hf794 := hf793.st hst676 rfl
                 have hf795 := hf794.st hst689 rfl
                 have hf796 := hG15.st hst17 rfl
                 have hf797 := hf796.st hst46 rfl
                 have hf798 := hf797.st hst89 rfl
                 have hf799 := hf798.st hst100 rfl
                 have hf800 := hf799.st hst106 rfl
                 have hf801 := hf800.st hst182 rfl
                 have hf802 := hf801.st hst227 rfl
                 have hf803 := hf802.st hst480 rfl
                 have hf804 := hf803.st hst513 rfl
                 have hf805 := hf804.st hst515 rfl
                 have hf806 := hf805.st hst528 rfl
                 have hf807 := hf806.st hst570 rfl
                 have hf808 := hf807.st hst576 rfl
                 have hf809 := hf808.st hst614 rfl
                 have hf810 := hf809.st hst666 rfl
                 have hf811 := hf810.st hst676 rfl
                 have hf812 := hf811.st hst689 rfl
                 obtain ⟨r813, hp814, h⟩ := bnd h
                 refine WL.call (vals := [Value.agg (List.toArray [vi a0.win.ahead, vi a0.win.size]), vu d667]) kok31 rfl rfl (c_xor_window_holds (A := fun _ => True) (a0 := a0.win) hf795.at_ trivial hf812.at_ trivial hp814) ?_
                 rintro vr817 wd816 ⟨rfl, hm815⟩
                 obtain ⟨O818, hold819, hnew820, hst821⟩ := adoptE O687 (fun k => 1) hm815
                 refine WL.nil ?_
                 refine At.dq (Stp.up hst821 rfl) ?_
                 refine WD.y 15 rfl (by kernel_rfl) (fun _ _ _ => Y.pick (b := false) rfl rfl) rfl ?_
                 refine WD.ren 111 rfl (congrArg Value.bool hE747.symm) ?_
                 exact hJ746 (r813, O818) _ _ _ ⟨some1 h, (Stp.up hst821 rfl), rfl⟩ (.cons rfl (.cons rfl (.cons rfl (.cons rfl (.cons rfl .nil)))))
               ·rintro ⟨x740, O741⟩ _ wd742 ⟨rfl, hst743, rfl⟩
                replace h := hk745
                try dsimp only at h hst743
                refine (show WD _ _ _ _ _ _ _ _ [(0, Value.pointer (some ⟨b40, 0, none⟩)), (2, Value.pointer (some ⟨p103, 0, none⟩)), (8, Value.pointer (some ⟨p510, 0, none⟩)), (9, vu d667), (118, Value.bool x740)] _ _ from ?_)
                refine WD.done_ (by kernel_rfl) ?_
                refine At.then ?_
                rcases cnd h with ⟨hc825, h⟩ | ⟨hc825, h⟩
                ·refine WC.condT' rfl hc825 ?_
                 refine WC.region ?_
                 refine WL.y (Y.move rfl) rfl ?_
                 refine WL.y (Y.nilCheck rfl) rfl ?_
                 have hf826 := hb603.st hst666 rfl
                 have hf827 := hf826.st hst676 rfl
                 have hf828 := hf827.st hst689 rfl
                 have hf829 := hf828.st hst743 rfl
                 refine WL.store (v := vi 3) (cells' := [vi 3]) ty29 rfl rfl hf829 rfl (Nat.le_of_ble_eq_true rfl) rfl rfl ?_
                 intro wd830 hst831 hb832
                 refine WL.nil ?_
                 exact At.join (σ := (Int × Own)) (3, O741) ⟨some1 h, (Stp.trans (Stp.up hst676 rfl) (Stp.trans (Stp.up hst689 rfl) (Stp.trans (Stp.up hst743 rfl) (Stp.up hst831 rfl)))), hb832⟩ (.cons rfl (.cons rfl (.cons rfl .nil)))
                ·refine WC.condF' rfl hc825 ?_
                 refine WC.skip ?_
                 have hf833 := hb603.st hst666 rfl
                 have hf834 := hf833.st hst676 rfl
                 have hf835 := hf834.st hst689 rfl
                 have hf836 := hf835.st hst743 rfl
                 exact At.join (σ := (Int × Own)) (c604, O741) ⟨some1 h, (Stp.trans (Stp.up hst676 rfl) (Stp.trans (Stp.up hst689 rfl) (Stp.up hst743 rfl))), hf836⟩ (.cons rfl (.cons rfl (.cons rfl .nil)))
             ·rintro ⟨c669, O670⟩ wd671 ⟨rfl, hst672, hb668⟩
              replace h := hk674
              try dsimp only at h hst672 hb668
              refine (show At _ _ _ [(0, Value.pointer (some ⟨b40, 0, none⟩)), (8, Value.pointer (some ⟨p510, 0, none⟩)), (9, vu d667)] _ from ?_)
              refine At.then ?_
              refine WC.seq ?_
              refine WC.region ?_
              refine WL.y (Y.move rfl) rfl ?_
              have hf837 := hf657.st hst666 rfl
              have hf838 := hf837.st hst672 rfl
              refine WL.y (Y.loadAg ty60 rfl rfl (hf838.cells 0 [vi (w64 (x477.toNat : Int)), vi t567] rfl) rfl) rfl ?_
              refine WL.y (Y.nilCheck rfl) rfl ?_
              refine WL.y (Y.fieldAddr fo62_2 rfl) rfl ?_
              have hf839 := hf125.st hst182 rfl
              have hf840 := hf839.st hst227 rfl
              have hf841 := hf840.st hst480 rfl
              have hf842 := hf841.st hst513 rfl
              have hf843 := hf842.st hst515 rfl
              have hf844 := hf843.st hst528 rfl
              have hf845 := hf844.st hst570 rfl
              have hf846 := hf845.st hst576 rfl
              have hf847 := hf846.st hst614 rfl
              have hf848 := hf847.st hst666 rfl
              have hf849 := hf848.st hst672 rfl
              refine WL.store (v := Value.agg (List.toArray [vi (w64 (x477.toNat : Int)), vi t567])) (cells' := [vi a0.n, vu a0.last, vi (w64 (x477.toNat : Int)), vi t567]) ty60 rfl rfl hf849 rfl (Nat.le_of_ble_eq_true rfl) rfl rfl ?_
              intro wd850 hst851 hb852
              refine WL.nil ?_
              refine At.then ?_
              refine WC.seq ?_
              refine WC.region ?_
              refine WL.y (Y.move rfl) rfl ?_
              refine WL.y (Y.assign rfl) rfl ?_
              refine WL.nil ?_
              refine At.then ?_
              refine WC.ret ?_
              have hf853 := hf608.mono (imm_st hst666 rfl rfl)
              have hf854 := hf853.mono (imm_st hst672 rfl rfl)
              have hf855 := hf854.mono (imm_st hst851 rfl rfl)
              have hf856 := hb605.st hst666 rfl
              have hf857 := hf856.st hst672 rfl
              have hf858 := hf857.st hst851 rfl
              have hf859 := hb668.st hst851 rfl
              exact At.res (.inl rfl) rfl (.tmp rfl .nil) ⟨(w64 (x477.toNat : Int), t567, c606, c609, c610, c669, d667, O670, v607), ⟨some1 h, (Stp.trans (Stp.up hst182 rfl) (Stp.trans (Stp.up hst227 rfl) (Stp.trans (Stp.up hst480 rfl) (Stp.trans (Stp.up hst513 rfl) (Stp.trans (Stp.up hst515 rfl) (Stp.trans (Stp.up hst528 rfl) (Stp.trans (Stp.up hst570 rfl) (Stp.trans (Stp.up hst576 rfl) (Stp.trans (Stp.up hst614 rfl) (Stp.trans (Stp.up hst666 rfl) (Stp.trans (Stp.up hst672 rfl) (Stp.up hst851 rfl)))))))))))), hb852, hf855, hf858, hf859⟩, rfl⟩
  ·rintro ⟨c108, c109, c111, c114, c115, c117, x118, O119, v112⟩ wd120 ⟨rfl, hst121, hb107, hf113, hb110, hb116⟩
   replace h := hk123
   try dsimp only at h hst121 hb107 hf113 hb110 hb116
   refine (show WL _ _ _ _ _ ((16, vu x118) :: _) _ from ?_)
   refine WL.y (Y.assign rfl) rfl ?_
   refine WL.nil ?_
   refine At.then ?_
   refine WC.seq ?_
   refine WC.seq ?_
   refine WC.region ?_
   refine WL.y (Y.loadSc ty29 rfl rfl (hb116.cell 0 _ rfl)) rfl ?_
   refine WL.y (Y.neq_i rfl rfl) rfl ?_
   refine WL.nil ?_
   refine At.then ?_
   rcases cnd h with ⟨hc860, h⟩ | ⟨hc860, h⟩
   ·refine WC.condT' rfl hc860 ?_
    refine WC.seq ?_
    refine WC.draw 2 O119 fmix (by kernel_rfl) ?_
    intro wd861 hst862
    have hf863 := hb116.st hst862 rfl
    refine WS.y (Y.loadSc ty29 rfl rfl (hf863.cell 0 _ rfl)) rfl ?_
    refine WS.y (Y.assign (v := vu 0) rfl) rfl ?_
    refine WS.tail ?_
    refine WL.y (Y.assign rfl) rfl ?_
    refine WL.nil ?_
    refine At.then ?_
    refine WC.ret ?_
    refine At.thenR ?_
    obtain ⟨rfl, rfl, rfl, rfl⟩ := tup4 h
    have hs864 : Stp [11, 12, 13, 14, 15, 16, 1001, 1002] (Lg.OB b0 3 (Lg.OB b1 4 (Lg.O0 A))) w O119 wd861 := (Stp.trans (Stp.up hst17 rfl) (Stp.trans (Stp.up hst46 rfl) (Stp.trans (Stp.up hst89 rfl) (Stp.trans (Stp.up hst100 rfl) (Stp.trans (Stp.up hst106 rfl) (Stp.trans (Stp.up hst121 rfl) (Stp.up hst862 rfl)))))))
    have hf865 := hb11.st hst17 rfl
    have hf866 := hf865.st hst46 rfl
    have hf867 := hf866.st hst89 rfl
    have hf868 := hf867.st hst100 rfl
    have hf869 := hf868.st hst106 rfl
    have hf870 := hf869.st hst121 rfl
    have hf871 := hf870.st hst862 rfl
    have hf872 := hb13.st hst17 rfl
    have hf873 := hf872.st hst46 rfl
    have hf874 := hf873.st hst89 rfl
    have hf875 := hf874.st hst100 rfl
    have hf876 := hf875.st hst106 rfl
    have hf877 := hf876.st hst121 rfl
    have hf878 := hf877.st hst862 rfl
    have hf879 := hf93.mono (imm_st hst100 rfl rfl)
    have hf880 := hf879.mono (imm_st hst106 rfl rfl)
    have hf881 := hf880.mono (imm_st hst121 rfl rfl)
    have hf882 := hf881.mono (imm_st hst862 rfl rfl)
    exact At.res (.inl rfl) rfl (.tmp rfl (.tmp rfl .nil)) ⟨(Value.slice p94 m95 c96), rfl, (Stp.modL hs864 (sB sB1) rfl rfl), hf871.blk, (Sl.outI hf882 hs864 (lowB (lowB low0 rfl rfl) rfl rfl) (aB (aB O0_A rfl) rfl)), hf878.blk⟩
   ·refine WC.condF' rfl hc860 ?_
    refine WC.skip ?_
    refine At.then ?_
    refine WC.seq ?_
    refine WC.region ?_
    refine WL.y (Y.fieldAddr fo62_1 rfl) rfl ?_
    refine WL.y (Y.loadSc ty23 rfl rfl (hb107.cell 1 _ rfl)) rfl ?_
    refine WL.y (Y.move rfl) rfl ?_
    refine WL.y (Y.xor_u rfl rfl) rfl ?_
    refine WL.y (Y.fieldAddr fo62_1 rfl) rfl ?_
    obtain ⟨t883, ht883, h⟩ := lt1 h
    refine WL.ren 23 rfl (congrArg vu ht883.symm) ?_
    refine WL.store (v := vu t883) (cells' := [vi a0.n, vu t883, vi c108, vi c109]) ty23 rfl rfl hb107 rfl (Nat.le_of_ble_eq_true rfl) rfl rfl ?_
    intro wd884 hst885 hb886
    refine WL.nil ?_
    refine At.then ?_
    refine WC.seq ?_
    refine WC.region ?_
    refine WL.y (Y.fieldAddr fo62_0 rfl) rfl ?_
    refine WL.y (Y.loadSc ty3 rfl rfl (hb886.cell 0 _ rfl)) rfl ?_
    refine WL.y (Y.add_i rfl rfl) rfl ?_
    refine WL.y (Y.fieldAddr fo62_0 rfl) rfl ?_
    obtain ⟨t887, ht887, h⟩ := lt1 h
    refine WL.ren 27 rfl (congrArg vi ht887.symm) ?_
    refine WL.store (v := vi t887) (cells' := [vi t887, vu t883, vi c108, vi c109]) ty3 rfl rfl hb886 rfl (Nat.le_of_ble_eq_true rfl) rfl rfl ?_
    intro wd888 hst889 hb890
    refine WL.nil ?_
    refine At.then ?_
    refine WC.seq ?_
    refine WC.region ?_
    refine WL.y (Y.move rfl) rfl ?_
    have hf891 := hb110.st hst885 rfl
    have hf892 := hf891.st hst889 rfl
    have hf893 := hf113.mono (imm_st hst885 rfl rfl)
    have hf894 := hf893.mono (imm_st hst889 rfl rfl)
    obtain ⟨r895, hp896, h⟩ := bnd h
    refine WL.call (vals := [Value.pointer (some ⟨b42, 0, none⟩)]) kok14 rfl rfl (c_bitio_Reader_At (A := fun _ => True) (a0 := (bitio_Reader.mk c111 c114 c115)) (Sl.all hf894) hf892.blk trivial hp896) ?_
    rintro vr899 wd898 ⟨rfl, hm897⟩
    obtain ⟨O900, hold901, hnew902, hst903⟩ := adoptE O119 (fun k => 1) hm897
    refine WL.y (Y.move rfl) rfl ?_
    have hf904 := hb13.st hst17 rfl
    have hf905 := hf904.st hst46 rfl
    have hf906 := hf905.st hst89 rfl
    have hf907 := hf906.st hst100 rfl
    have hf908 := hf907.st hst106 rfl
    have hf909 := hf908.st hst121 rfl
    have hf910 := hf909.st hst885 rfl
    have hf911 := hf910.st hst889 rfl
    have hf912 := hf911.st hst903 rfl
    have hf913 := hf93.mono (imm_st hst100 rfl rfl)
    have hf914 := hf913.mono (imm_st hst106 rfl rfl)
    have hf915 := hf914.mono (imm_st hst121 rfl rfl)
    have hf916 := hf915.mono (imm_st hst885 rfl rfl)
    have hf917 := hf916.mono (imm_st hst889 rfl rfl)
    have hf918 := hf917.mono (imm_st hst903 rfl rfl)
    obtain ⟨r919, hp920, h⟩ := bnd h
    refine WL.call (vals := [Value.pointer (some ⟨b1, 0, none⟩)]) kok14 rfl rfl (c_bitio_Reader_At (A := fun _ => True) (a0 := a1) (Sl.all hf918) hf912.blk trivial hp920) ?_
    rintro vr923 wd922 ⟨rfl, hm921⟩
    obtain ⟨O924, hold925, hnew926, hst927⟩ := adoptE O900 (fun k => 1) hm921
    refine WL.y (Y.sub_i rfl rfl) rfl ?_
    have hf928 := hf912.st hst927 rfl
    have hf929 := hf918.mono (imm_st hst927 rfl rfl)
    obtain ⟨⟨r930, r931⟩, hp932, h⟩ := bnd h
    refine WL.call (vals := [Value.pointer (some ⟨b1, 0, none⟩), vi (w64 (r895 - r919))]) kok29 rfl rfl (c_bitio_Reader_Skip (A := imm O924) (a0 := a1) hf929 hf928.blk (fun k hk => imm_ne hf928.lab rfl k hk) hp932) ?_
    rintro vr938 wd937 ⟨z933, rfl, hm936, f934, f935⟩
    obtain ⟨O939, hold940, hnew941, hst942⟩ := adopt O924 (fun k => 1) [4] hm936 (memB hf928.lab rfl)
    have hf943 : Sl Rep.b wd937 (imm O939) z933 r931.b := Sl.adoptI (O := O924) f934 (fun _ hk => hk) (fun _ _ => Nat.le_refl _) hold940 hnew941
    have hb944 : Blk 4 O939 wd937 b1 58 [z933, vi r931.n, vi r931.at_] := Blk.adopt hf928 hold940 f935
    refine WL.nil ?_
    refine At.then ?_
    refine WC.seq ?_
    refine WC.region ?_
    refine WL.y (Y.move rfl) rfl ?_
    have hf945 := hb890.st hst903 rfl
    have hf946 := hf945.st hst927 rfl
    have hf947 := hf946.st hst942 rfl
    refine WL.y (Y.loadAg ty62 rfl rfl (hf947.cells 0 [vi t887, vu t883, vi c108, vi c109] rfl) rfl) rfl ?_
    refine WL.y (Y.nilCheck rfl) rfl ?_
    have hf948 := hb11.st hst17 rfl
    have hf949 := hf948.st hst46 rfl
    have hf950 := hf949.st hst89 rfl
    have hf951 := hf950.st hst100 rfl
    have hf952 := hf951.st hst106 rfl
    have hf953 := hf952.st hst121 rfl
    have hf954 := hf953.st hst885 rfl
    have hf955 := hf954.st hst889 rfl
    have hf956 := hf955.st hst903 rfl
    have hf957 := hf956.st hst927 rfl
    have hf958 := hf957.st hst942 rfl
    refine WL.store (v := Value.agg (List.toArray [vi t887, vu t883, vi c108, vi c109])) (cells' := [vi t887, vu t883, vi c108, vi c109]) ty62 rfl rfl hf958 rfl (Nat.le_of_ble_eq_true rfl) rfl rfl ?_
    intro wd959 hst960 hb961
    refine WL.nil ?_
    refine At.then ?_
    refine WC.seq ?_
    refine WC.region ?_
    refine WL.y (Y.move rfl) rfl ?_
    refine WL.y (Y.nilCheck rfl) rfl ?_
    refine WL.y (Y.fieldAddr fo62_1 rfl) rfl ?_
    refine WL.y (Y.loadSc ty23 rfl rfl (hb961.cell 1 _ rfl)) rfl ?_
    refine WL.y (Y.assign rfl) rfl ?_
    refine WL.y (Y.assign rfl) rfl ?_
    refine WL.nil ?_
    refine At.then ?_
    refine WC.ret ?_
    obtain ⟨rfl, rfl, rfl, rfl⟩ := tup4 h
    have hs962 : Stp [3, 4, 11, 12, 13, 14, 15, 16, 1001, 1002] (Lg.OB b0 3 (Lg.OB b1 4 (Lg.O0 A))) w O939 wd959 := (Stp.trans (Stp.up hst17 rfl) (Stp.trans (Stp.up hst46 rfl) (Stp.trans (Stp.up hst89 rfl) (Stp.trans (Stp.up hst100 rfl) (Stp.trans (Stp.up hst106 rfl) (Stp.trans (Stp.up hst121 rfl) (Stp.trans (Stp.up hst885 rfl) (Stp.trans (Stp.up hst889 rfl) (Stp.trans (Stp.up hst903 rfl) (Stp.trans (Stp.up hst927 rfl) (Stp.trans (Stp.up hst942 rfl) (Stp.up hst960 rfl))))))))))))
    have hf963 := hb944.st hst960 rfl
    have hf964 := hf943.mono (imm_st hst960 rfl rfl)
    exact At.res (.inl rfl) rfl (.tmp rfl (.tmp rfl .nil)) ⟨z933, rfl, (Stp.modL hs962 (sB sB1) rfl rfl), hb961.blk, (Sl.outI hf964 hs962 (lowB (lowB low0 rfl rfl) rfl rfl) (aB (aB O0_A rfl) rfl)), hf963.blk⟩

theorem c_bitio_Writer_Bytes {A : Nat → Prop} {v0_0 : Value} {a0 : bitio_Writer} {b0 : Nat} {w : World} (hs0_0 : Sl Rep.b w A v0_0 a0.b) (hb0 : w.heap[b0]? = some (.cells (List.toArray [v0_0, vi a0.n]) 64 (0, 0))) (hm0 : A b0) {r0 : List UInt8} (h : bitio_Writer_Bytes a0 = some r0) : Rets Tryd.prog 18 [Value.pointer (some ⟨b0, 0, none⟩)] w (fun v w' => ∃ (u0 : Value), v = u0 ∧ Ext w w' ∧ RowF Rep.b 5 w w' u0 r0) := by
 unfold bitio_Writer_Bytes at h
 refine Rets.enter Tryd.func18 rfl rfl ?_
 have hf11 : Sl Rep.b w (imm (Lg.O0 A)) v0_0 a0.b := (Sl.start hs0_0)
 have hb12 : Blk 0 (Lg.O0 A) w b0 64 [v0_0, vi a0.n] := ⟨(if_pos hm0), hb0⟩
 refine (show WC _ _ _ _ [(0, Value.pointer (some ⟨b0, 0, none⟩))] _ from ?_)
 refine WC.seq ?_
 refine WC.region ?_
 refine WL.y (Y.assign rfl) rfl ?_
 refine WL.nil ?_
 refine At.then ?_
 refine WC.seq ?_
 refine WC.region ?_
 refine WL.y (Y.move rfl) rfl ?_
 refine WL.y (Y.nilCheck rfl) rfl ?_
 refine WL.y (Y.fieldAddr fo64_0 rfl) rfl ?_
 refine WL.y (Y.loadSc ty27 rfl rfl (hb12.cell 0 _ rfl)) rfl ?_
 obtain ⟨r13, hp14, h⟩ := bnd h
 refine WL.call (vals := [v0_0]) kok23 rfl rfl (c_bytes_Clone (A := fun _ => True) (Sl.all hf11) hp14) ?_
 rintro vr19 wd18 ⟨_, rfl, hm17, f16⟩
 obtain ⟨O20, hold21, hnew22, hst23⟩ := adoptE (Lg.O0 A) (fun k => if Value.ownBlock vr19 = some k then 11 else 1) hm17
 have hf24 : OwnSl 11 Rep.b 5 O20 wd18 vr19 r13 := RowF.adopt 11 Flat.b f16 hnew22 (fun k hk => if_pos hk)
 refine WL.y (Y.assign rfl) rfl ?_
 refine WL.nil ?_
 refine At.then ?_
 refine WC.ret ?_
 obtain rfl := some1 h
 have hs25 : Stp [] (Lg.O0 A) w O20 wd18 := (Stp.up hst23 rfl)
 exact At.res (.inl rfl) rfl (.tmp rfl .nil) ⟨vr19, rfl, (Stp.ext hs25 rfl rfl), (OwnSl.outF hf24 hs25 low0 rfl)⟩

theorem c_ref01_Bytes {A : Nat → Prop} {a0 : List Int} {v0 : Value} {w : World} (hs0 : Sl Rep.i w A v0 a0) {r0 : List UInt8} (h : ref01_Bytes a0 = some r0) : Rets Tryd.prog 19 [v0] w (fun v w' => ∃ (u0 : Value), v = u0 ∧ Ext w w' ∧ RowF Rep.b 5 w w' u0 r0) := by
 unfold ref01_Bytes at h
 refine Rets.enter Tryd.func19 rfl rfl ?_
 have hf11 : Sl Rep.i w (imm (Lg.O0 A)) v0 a0 := (Sl.start hs0)
 refine (show WC _ _ _ _ [(0, v0)] _ from ?_)
 refine WC.seq ?_
 refine WC.region ?_
 refine WL.y (Y.assign rfl) rfl ?_
 refine WL.nil ?_
 refine At.then ?_
 refine WC.seq ?_
 refine WC.region ?_
 refine WL.y (Y.assign rfl) rfl ?_
 refine WL.nil ?_
 refine At.then ?_
 refine WC.seq ?_
 refine WC.seq ?_
 refine WC.region ?_
 refine WL.y (Y.assign rfl) rfl ?_
 refine WL.nil ?_
 refine At.then ?_
 refine WC.block ?_
 obtain ⟨p25, h, hk27⟩ := flow1 h
 obtain ⟨k26, h⟩ := loop_some h
 refine WC.joinB 0 (σ := (List UInt8 × Own × Value)) (fun x w' => p25 = .go x.1 ∧ Stp [12, 1001] (Lg.O0 A) w x.2.1 w' ∧ OwnSl 1002 Rep.b 5 x.2.1 w' x.2.2 x.1) (fun x => [(3, x.2.2)]) ?_ ?_
 ·refine WC.loop (σ := (List UInt8 × Int × Own × Value)) (fun x k w' => loopN k (ref01_Bytes_lp1 a0) (x.1, x.2.1) = some p25 ∧ Stp [12, 1001] (Lg.O0 A) w x.2.2.1 w' ∧ OwnSl 1001 Rep.b 5 x.2.2.1 w' x.2.2.2 x.1) (fun x => [(0, v0), (3, x.2.2.2), (4, vi x.2.1)]) ([], 0, (Lg.O0 A), Value.slice none 0 0) k26 (.cons rfl (.cons rfl (.cons rfl .nil))) ⟨h, (Stp.refl _ _ _), (OwnSl.nil 1001 Rep.b 5)⟩ ?_
  rintro ⟨out12, i15, O16, v13⟩ k26 wd17 ⟨h, hst18, hf14⟩
  obtain ⟨j28, q29, rfl, h, hn30⟩ := rnd1 h
  unfold ref01_Bytes_lp1 at h
  try dsimp only at h hst18 hf14
  refine (show WC _ _ _ _ [(0, v0), (3, v13), (4, vi i15)] _ from ?_)
  refine WC.seq ?_
  refine WC.seq ?_
  refine WC.region ?_
  refine WL.y (Y.move rfl) rfl ?_
  refine WL.y (Y.move rfl) rfl ?_
  have hf31 := hf11.mono (imm_st hst18 rfl rfl)
  refine WL.y (Y.len ty32 rfl hf31) rfl ?_
  refine WL.y (Y.lss_i rfl rfl) rfl ?_
  refine WL.nil ?_
  refine At.then ?_
  rcases cnd h with ⟨hc32, h⟩ | ⟨hc32, h⟩
  ·refine WC.condT' rfl hc32 ?_
   refine WC.skip ?_
   refine At.then ?_
   refine WC.seq ?_
   refine WC.block ?_
   refine WC.seq ?_
   refine WC.region ?_
   refine WL.y (Y.assign rfl) rfl ?_
   refine WL.nil ?_
   refine At.then ?_
   refine WC.seq ?_
   refine WC.seq ?_
   refine WC.region ?_
   refine WL.y (Y.assign rfl) rfl ?_
   refine WL.nil ?_
   refine At.then ?_
   obtain ⟨p34, h, hk35⟩ := bnd h
   refine WC.join (σ := Int) (fun x w' => x = p34 ∧ wd17 = w') (fun x => [(0, v0), (3, v13), (4, vi i15), (5, vi x)]) ?_ ?_
   ·refine WC.block ?_
    obtain ⟨p39, h, hk41⟩ := flow1 h
    obtain ⟨k40, h⟩ := loop_some h
    refine WC.joinB 2 (σ := Int) (fun x w' => p39 = .go x ∧ wd17 = w') (fun x => [(0, v0), (3, v13), (4, vi i15), (5, vi x)]) ?_ ?_
    ·refine WC.loop (σ := (Int × Int)) (fun x k w' => loopN k (ref01_Bytes_lp2 a0 i15) (x.1, x.2) = some p39 ∧ wd17 = w') (fun x => [(0, v0), (3, v13), (4, vi i15), (5, vi x.1), (6, vi x.2)]) (0, 0) k40 (.cons rfl (.cons rfl (.cons rfl (.cons rfl (.cons rfl .nil))))) ⟨h, rfl⟩ ?_
     rintro ⟨x36, k37⟩ k40 _ ⟨h, rfl⟩
     obtain ⟨j42, q43, rfl, h, hn44⟩ := rnd1 h
     unfold ref01_Bytes_lp2 at h
     try dsimp only at h
     refine (show WC _ _ _ _ [(0, v0), (3, v13), (4, vi i15), (5, vi x36), (6, vi k37)] _ from ?_)
     refine WC.seq ?_
     refine WC.seq ?_
     refine WC.region ?_
     refine WL.y (Y.move rfl) rfl ?_
     refine WL.y (Y.lss_i rfl rfl) rfl ?_
     refine WL.nil ?_
     refine At.then ?_
     rcases cnd h with ⟨hc45, h⟩ | ⟨hc45, h⟩
     ·refine WC.condT' rfl hc45 ?_
      refine WC.skip ?_
      refine At.then ?_
      refine WC.seq ?_
      obtain ⟨p47, h, hk48⟩ := bnd h
      refine WC.join (σ := Int) (fun x w' => x = p47 ∧ wd17 = w') (fun x => [(0, v0), (3, v13), (4, vi i15), (5, vi x), (6, vi k37)]) ?_ ?_
      ·refine WC.block ?_
       refine WC.seq ?_
       refine WC.region ?_
       refine WL.y (Y.move rfl) rfl ?_
       refine WL.y (Y.mul_i rfl rfl) rfl ?_
       obtain ⟨x49, hx49, h⟩ := lt1 h
       refine WL.yE (Y.assign rfl) (congrArg vi hx49.symm) rfl ?_
       refine WL.nil ?_
       refine At.then ?_
       refine WC.seq ?_
       refine WC.region ?_
       refine WL.y (Y.move rfl) rfl ?_
       refine WL.y (Y.move rfl) rfl ?_
       refine WL.y (Y.add_i rfl rfl) rfl ?_
       refine WL.y (Y.move rfl) rfl ?_
       refine WL.y (Y.len ty32 rfl hf31) rfl ?_
       refine WL.y (Y.lss_i rfl rfl) rfl ?_
       refine WL.nil ?_
       refine At.then ?_
       rcases cnd h with ⟨hc50, h⟩ | ⟨hc50, h⟩
       ·refine WC.condT' rfl hc50 ?_
        refine WC.region ?_
        refine WL.y (Y.move rfl) rfl ?_
        refine WL.y (Y.move rfl) rfl ?_
        refine WL.y (Y.move rfl) rfl ?_
        refine WL.y (Y.move rfl) rfl ?_
        refine WL.y (Y.add_i rfl rfl) rfl ?_
        obtain ⟨e51, he51, h⟩ := bnd h
        obtain ⟨b52, off60, cap59, cs58, hv53, hi54, hl55, hc56, hok57, hA61⟩ := Sl.at2 hf31 he51
        obtain rfl := hok57
        replace hc56 : CellsAt _ _ _ [vi e51] := hc56
        have hca62 := CAt.imm hc56 hA61
        refine WL.y (Y.indexAddr ty32 ty3 rfl hv53 rfl hi54 hl55) rfl ?_
        refine WL.y (Y.loadSc ty3 rfl rfl hca62.at_) rfl ?_
        refine WL.y (Y.add_i rfl rfl) rfl ?_
        obtain ⟨x63, hx63, h⟩ := lt1 h
        refine WL.yE (Y.assign rfl) (congrArg vi hx63.symm) rfl ?_
        refine WL.nil ?_
        refine At.inBlock ?_
        exact At.join (σ := Int) x63 ⟨some1 h, rfl⟩ (.cons rfl (.cons rfl (.cons rfl (.cons rfl (.cons rfl .nil)))))
       ·refine WC.condF' rfl hc50 ?_
        refine WC.skip ?_
        refine At.inBlock ?_
        exact At.join (σ := Int) x49 ⟨some1 h, rfl⟩ (.cons rfl (.cons rfl (.cons rfl (.cons rfl (.cons rfl .nil)))))
      ·rintro x46 _ ⟨rfl, rfl⟩
       replace h := hk48
       try dsimp only at h
       refine (show At _ _ _ [(0, v0), (3, v13), (4, vi i15), (5, vi x46), (6, vi k37)] _ from ?_)
       refine At.then ?_
       refine WC.region ?_
       refine WL.y (Y.move rfl) rfl ?_
       refine WL.y (Y.add_i rfl rfl) rfl ?_
       obtain ⟨k64, hk64, h⟩ := lt1 h
       refine WL.yE (Y.assign rfl) (congrArg vi hk64.symm) rfl ?_
       refine WL.nil ?_
       exact At.round (x46, k64) j42 (Nat.lt_succ_self _) ⟨next1 h hn44, rfl⟩ (.cons rfl (.cons rfl (.cons rfl (.cons rfl (.cons rfl .nil)))))
     ·refine WC.condF' rfl hc45 ?_
      refine WC.exit ?_
      refine At.thenX ?_
      refine At.loopX ?_
      exact At.hitB (σ := Int) x36 ⟨brk1 h hn44, rfl⟩ (.cons rfl (.cons rfl (.cons rfl (.cons rfl .nil))))
    ·rintro x38 _ ⟨rfl, rfl⟩
     replace h := flowK_go hk41
     try dsimp only at h
     refine (show At _ _ _ [(0, v0), (3, v13), (4, vi i15), (5, vi x38)] _ from ?_)
     refine At.inBlockHit ?_
     exact At.join (σ := Int) x38 ⟨some1 h, rfl⟩ (.cons rfl (.cons rfl (.cons rfl (.cons rfl .nil))))
   ·rintro x33 _ ⟨rfl, rfl⟩
    replace h := hk35
    try dsimp only at h
    refine (show At _ _ _ [(0, v0), (3, v13), (4, vi i15), (5, vi x33)] _ from ?_)
    refine At.then ?_
    refine WC.region ?_
    refine WL.y (Y.move rfl) rfl ?_
    refine WL.y (Y.move rfl) rfl ?_
    refine WL.y (Y.conv_ib ty3.u ty5.u rfl) rfl ?_
    refine WL.buildSlice (O := O16) (R := Rep.b) (vals := [(0, vb (toU8 x33))]) 11 [vb (toU8 x33)] (xs := [toU8 x33]) (by decide) ty27 ty5 (by decide) (by decide) (Fits.evalp rfl) (by kernel_rfl) rfl ⟨[vb (toU8 x33)], [], rfl, rfl, rfl⟩ rfl ?_
    intro v65 O67 wd68 hst69 ho66
    obtain ⟨xs70, hxs70, h⟩ := bnd h
    have hf71 := hf14.st hst69 rfl rfl rfl
    refine WL.append (by decide) ty27 ty5 rfl (by decide) rfl rfl hf71 ho66.src hxs70 rfl ?_
    intro v75 O72 wd73 hst74 ho76
    refine WL.y (Y.assign rfl) rfl ?_
    refine WL.nil ?_
    refine At.inBlock ?_
    refine At.then ?_
    refine WC.region ?_
    refine WL.y (Y.move rfl) rfl ?_
    refine WL.y (Y.add_i rfl rfl) rfl ?_
    obtain ⟨i77, hi77, h⟩ := lt1 h
    refine WL.yE (Y.assign rfl) (congrArg vi hi77.symm) rfl ?_
    refine WL.nil ?_
    exact At.round (xs70, i77, O72, v75) j28 (Nat.lt_succ_self _) ⟨next1 h hn30, (Stp.trans (Stp.up hst18 rfl) (Stp.trans (Stp.up hst69 rfl) (Stp.up hst74 rfl))), ho76⟩ (.cons rfl (.cons rfl (.cons rfl .nil)))
  ·refine WC.condF' rfl hc32 ?_
   refine WC.exit ?_
   refine At.thenX ?_
   refine At.loopX ?_
   obtain ⟨O78, hst79, ho80⟩ := OwnSl.rlb 1002 rfl hf14
   exact At.hitB (σ := (List UInt8 × Own × Value)) (out12, O78, v13) ⟨brk1 h hn30, (Stp.trans (Stp.up hst18 rfl) (Stp.up hst79 rfl)), ho80⟩ (.cons rfl .nil)
 ·rintro ⟨out19, O22, v20⟩ wd23 ⟨rfl, hst24, hf21⟩
  replace h := flowK_go hk27
  try dsimp only at h hst24 hf21
  refine (show At _ _ _ [(3, v20)] _ from ?_)
  refine At.inBlockHit ?_
  refine At.then ?_
  refine WC.seq ?_
  refine WC.region ?_
  refine WL.y (Y.move rfl) rfl ?_
  refine WL.y (Y.assign rfl) rfl ?_
  refine WL.nil ?_
  refine At.then ?_
  refine WC.ret ?_
  obtain rfl := some1 h
  have hs81 : Stp [12, 1001] (Lg.O0 A) w O22 wd23 := (Stp.up hst24 rfl)
  exact At.res (.inl rfl) rfl (.tmp rfl .nil) ⟨v20, rfl, (Stp.ext hs81 rfl rfl), (OwnSl.outF hf21 hs81 low0 rfl)⟩

theorem c_law07_XorTakes {A : Nat → Prop} {a0 : List UInt8} {v0 : Value} {a1 : Int} {w : World} (hs0 : Sl Rep.b w A v0 a0) (hG0 : CellsAt w 0 0 [vi 0, vi 0]) (hGA0 : A 0) (hG1 : CellsAt w 1 0 (gdat1.map vb)) (hGA1 : A 1) {r0 : Bool} (h : law07_XorTakes a0 a1 = some r0) : Rets Tryd.prog 4 [v0, vi a1] w (fun v w' => v = Value.bool r0 ∧ Ext w w') := by
 unfold law07_XorTakes at h
 refine Rets.enter Tryd.func4 rfl rfl ?_
 have hf11 : Sl Rep.b w (imm (Lg.O0 A)) v0 a0 := (Sl.start hs0)
 have hG12 : CAt [0, 1] (Lg.O0 A) w 0 0 [vi 0, vi 0] := CAt.glob hG0 (if_pos hGA0)
 have hG13 : CAt [0, 1] (Lg.O0 A) w 1 0 (gdat1.map vb) := CAt.glob hG1 (if_pos hGA1)
 refine (show WC _ _ _ _ [(0, v0), (1, vi a1)] _ from ?_)
 refine WC.seq ?_
 refine WC.region ?_
 refine WL.y (Y.assign rfl) rfl ?_
 refine WL.nil ?_
 refine At.then ?_
 refine WC.seq ?_
 refine WC.seq ?_
 refine WC.region ?_
 obtain ⟨r14, hp15, h⟩ := bnd h
 refine WL.call (vals := []) kok6 rfl rfl (c_law07_awake (A := fun _ => True) hG12.at_ trivial hG13.at_ trivial hp15) ?_
 rintro vr18 wd17 ⟨rfl, hm16⟩
 obtain ⟨O19, hold20, hnew21, hst22⟩ := adoptE (Lg.O0 A) (fun k => 1) hm16
 refine WL.y (Y.not rfl) rfl ?_
 refine WL.nil ?_
 refine At.then ?_
 rcases cnd h with ⟨hc23, h⟩ | ⟨hc23, h⟩
 ·refine WC.condT' rfl hc23 ?_
  refine WC.seq ?_
  refine WC.region ?_
  refine WL.y (Y.assign rfl) rfl ?_
  refine WL.nil ?_
  refine At.then ?_
  refine WC.ret ?_
  refine At.thenR ?_
  obtain rfl := some1 h
  have hs24 : Stp [] (Lg.O0 A) w O19 wd17 := (Stp.up hst22 rfl)
  exact At.res (.inl rfl) rfl (.tmp rfl .nil) ⟨rfl, (Stp.ext hs24 rfl rfl)⟩
 ·refine WC.condF' rfl hc23 ?_
  refine WC.skip ?_
  refine At.then ?_
  refine WC.seq ?_
  refine WC.seq ?_
  refine WC.region ?_
  refine WL.y (Y.move rfl) rfl ?_
  have hf25 := hf11.mono (imm_st hst22 rfl rfl)
  refine WL.y (Y.len ty27 rfl hf25) rfl ?_
  refine WL.y (Y.gtr_i rfl rfl) rfl ?_
  refine WL.y (Y.move rfl) rfl ?_
  refine WL.cut 3 (σ := Unit) (fun _ w' => wd17 = w') (fun _ => [(0, v0), (1, vi a1), (25, Value.bool ((decide (80 < (a0.length : Int))) || (decide (a1 < 0))))]) ?_ ?_
  ·refine WL.part 22 rfl (fun hE26 => ?_) (fun hE26 => ?_)
   ·refine WL.gS rfl rfl rfl rfl ?_
    refine WL.gS rfl rfl rfl rfl ?_
    refine WL.y (Y.pick (b := true) rfl rfl) rfl ?_
    refine WL.ren (v' := Value.bool ((decide (80 < (a0.length : Int))) || (decide (a1 < 0)))) 25 rfl (congrArg Value.bool (orT hE26)) ?_
    exact WL.nil (At.join () rfl (.cons rfl (.cons rfl (.cons rfl .nil))))
   ·refine WL.ung rfl rfl ?_
    refine WL.y (Y.move rfl) rfl ?_
    refine WL.ung rfl rfl ?_
    refine WL.y (Y.lss_i rfl rfl) rfl ?_
    refine WL.y (Y.pick (b := false) rfl rfl) rfl ?_
    refine WL.ren (v' := Value.bool ((decide (80 < (a0.length : Int))) || (decide (a1 < 0)))) 25 rfl (congrArg Value.bool (orF hE26)) ?_
    exact WL.nil (At.join () rfl (.cons rfl (.cons rfl (.cons rfl .nil))))
  ·rintro _ _ rfl
   refine (show WL _ _ _ _ _ [(0, v0), (1, vi a1), (25, Value.bool ((decide (80 < (a0.length : Int))) || (decide (a1 < 0))))] _ from ?_)
   refine WL.y (Y.move rfl) rfl ?_
   refine WL.cut 3 (σ := Unit) (fun _ w' => wd17 = w') (fun _ => [(0, v0), (1, vi a1), (29, Value.bool (((decide (80 < (a0.length : Int))) || (decide (a1 < 0))) || (decide (60 < a1))))]) ?_ ?_
   ·refine WL.part 26 rfl (fun hE27 => ?_) (fun hE27 => ?_)
    ·refine WL.gS rfl rfl rfl rfl ?_
     refine WL.gS rfl rfl rfl rfl ?_
     refine WL.y (Y.pick (b := true) rfl rfl) rfl ?_
     refine WL.ren (v' := Value.bool (((decide (80 < (a0.length : Int))) || (decide (a1 < 0))) || (decide (60 < a1)))) 29 rfl (congrArg Value.bool (orT hE27)) ?_
     exact WL.nil (At.join () rfl (.cons rfl (.cons rfl (.cons rfl .nil))))
    ·refine WL.ung rfl rfl ?_
     refine WL.y (Y.move rfl) rfl ?_
     refine WL.ung rfl rfl ?_
     refine WL.y (Y.gtr_i rfl rfl) rfl ?_
     refine WL.y (Y.pick (b := false) rfl rfl) rfl ?_
     refine WL.ren (v' := Value.bool (((decide (80 < (a0.length : Int))) || (decide (a1 < 0))) || (decide (60 < a1)))) 29 rfl (congrArg Value.bool (orF hE27)) ?_
     exact WL.nil (At.join () rfl (.cons rfl (.cons rfl (.cons rfl .nil))))
   ·rintro _ _ rfl
    refine (show WL _ _ _ _ _ [(0, v0), (1, vi a1), (29, Value.bool (((decide (80 < (a0.length : Int))) || (decide (a1 < 0))) || (decide (60 < a1))))] _ from ?_)
    refine WL.nil ?_
    refine At.then ?_
    rcases cnd h with ⟨hc28, h⟩ | ⟨hc28, h⟩
    ·refine WC.condT' rfl hc28 ?_
     refine WC.seq ?_
     refine WC.region ?_
     refine WL.y (Y.assign rfl) rfl ?_
     refine WL.nil ?_
     refine At.then ?_
     refine WC.ret ?_
     refine At.thenR ?_
     obtain rfl := some1 h
     have hs29 : Stp [] (Lg.O0 A) w O19 wd17 := (Stp.up hst22 rfl)
     exact At.res (.inl rfl) rfl (.tmp rfl .nil) ⟨rfl, (Stp.ext hs29 rfl rfl)⟩
    ·refine WC.condF' rfl hc28 ?_
     refine WC.skip ?_
     refine At.then ?_
     refine WC.seq ?_
     refine WC.region ?_
     refine WL.y (Y.move rfl) rfl ?_
     refine WL.y (Y.move rfl) rfl ?_
     refine WL.y (Y.len ty27 rfl hf25) rfl ?_
     refine WL.y (Y.mul_i rfl rfl) rfl ?_
     obtain ⟨⟨r30, r31⟩, hp32, h⟩ := bnd h
     refine WL.call (vals := [v0, vi (w64 (8 * (a0.length : Int)))]) kok8 rfl rfl (c_bitio_NewReader (A := fun _ => True) (Sl.all hf25) hp32) ?_
     rintro vr37 wd36 ⟨u33, rfl, hm35, f34⟩
     obtain ⟨O38, hold39, hnew40, hst41⟩ := adoptE O19 (labP u33 11) hm35
     refine WL.y (Y.move rfl) rfl ?_
     refine WL.y (Y.extract rfl rfl) rfl ?_
     refine WL.y (Y.extract rfl rfl) rfl ?_
     refine WL.y (Y.assign rfl) rfl ?_
     refine WL.y (Y.assign rfl) rfl ?_
     refine WL.nil ?_
     refine At.then ?_
     refine WC.seq ?_
     refine WC.seq ?_
     refine WC.region ?_
     refine WL.y (Y.move rfl) rfl ?_
     refine WL.y (Y.eql_opt ty28.u rfl rfl f34 (fun d hd => by obtain ⟨_, _, e, _⟩ := hd; exact ⟨_, e⟩)) rfl ?_
     refine WL.nil ?_
     refine At.then ?_
     rcases cnd h with ⟨hc42, h⟩ | ⟨hc42, h⟩
     ·refine WC.condT' rfl hc42 ?_
      refine WC.seq ?_
      refine WC.region ?_
      refine WL.y (Y.assign rfl) rfl ?_
      refine WL.nil ?_
      refine At.then ?_
      refine WC.ret ?_
      refine At.thenR ?_
      obtain rfl := some1 h
      have hs43 : Stp [] (Lg.O0 A) w O38 wd36 := (Stp.trans (Stp.up hst22 rfl) (Stp.up hst41 rfl))
      exact At.res (.inl rfl) rfl (.tmp rfl .nil) ⟨rfl, (Stp.ext hs43 rfl rfl)⟩
     ·refine WC.condF' rfl hc42 ?_
      refine WC.skip ?_
      refine At.then ?_
      refine WC.seq ?_
      refine WC.region ?_
      refine WL.y (Y.move rfl) rfl ?_
      have hf44 := hf25.mono (imm_st hst41 rfl rfl)
      obtain ⟨r45, hp46, h⟩ := bnd h
      refine WL.call (vals := [v0]) kok9 rfl rfl (c_ref01_Bits (A := fun _ => True) (Sl.all hf44) hp46) ?_
      rintro vr51 wd50 ⟨_, rfl, hm49, f48⟩
      obtain ⟨O52, hold53, hnew54, hst55⟩ := adoptE O38 (fun k => if Value.ownBlock vr51 = some k then 12 else 1) hm49
      have hf56 : OwnSl 12 Rep.i 3 O52 wd50 vr51 r45 := RowF.adopt 12 Flat.i f48 hnew54 (fun k hk => if_pos hk)
      refine WL.y (Y.assign rfl) rfl ?_
      refine WL.nil ?_
      refine At.then ?_
      refine WC.seq ?_
      refine WC.region ?_
      obtain ⟨r57, hp58, h⟩ := bnd h
      refine WL.call (vals := []) kok10 rfl rfl (c_xor_NewRow hp58) ?_
      rintro vr63 wd62 ⟨p59, rfl, hm61, f60⟩
      obtain ⟨O64, hold65, hnew66, hst67⟩ := adoptE O52 (fun k => if k = p59 then 13 else 1) hm61
      have hb68 : Blk 13 O64 wd62 p59 62 [vi r57.n, vu r57.last, vi r57.win.ahead, vi r57.win.size] := Blk.new f60 hnew66 (if_pos rfl)
      obtain ⟨r69, hp70, h⟩ := bnd h
      refine WL.call (vals := []) kok10 rfl rfl (c_xor_NewRow hp70) ?_
      rintro vr75 wd74 ⟨p71, rfl, hm73, f72⟩
      obtain ⟨O76, hold77, hnew78, hst79⟩ := adoptE O64 (fun k => if k = p71 then 14 else 1) hm73
      have hb80 : Blk 14 O76 wd74 p71 62 [vi r69.n, vu r69.last, vi r69.win.ahead, vi r69.win.size] := Blk.new f72 hnew78 (if_pos rfl)
      refine WL.y (Y.assign rfl) rfl ?_
      refine WL.y (Y.assign rfl) rfl ?_
      refine WL.nil ?_
      refine At.then ?_
      refine WC.seq ?_
      refine WC.region ?_
      obtain ⟨r81, hp82, h⟩ := bnd h
      refine WL.call (vals := []) kok11 rfl rfl (c_bitio_NewWriter hp82) ?_
      rintro vr90 wd89 ⟨p83, u84, rfl, hm88, f85, f86, f87⟩
      obtain ⟨O91, hold92, hnew93, hst94⟩ := adoptE O76 (fun k => if k = p83 then 15 else if Value.ownBlock u84 = some k then 16 else 1) hm88
      have hf96 : OwnSl 16 Rep.b 5 O91 wd89 u84 r81.b := RowF.adopt 16 Flat.b f86 hnew93 (fun k hk => (if_neg (fun (e : k = p83) => f87 (e ▸ hk))).trans (if_pos hk))
      have hb95 : Blk 15 O91 wd89 p83 64 [u84, vi r81.n] := Blk.new f85 hnew93 (if_pos rfl)
      refine WL.y (Y.assign rfl) rfl ?_
      refine WL.nil ?_
      refine At.then ?_
      refine WC.seq ?_
      refine WC.region ?_
      refine WL.y (Y.build (vals := []) (cells := [Value.slice none 0 0, vi 0, vi 0]) (Fits.evalp rfl) (by kernel_rfl)) rfl ?_
      refine WL.alloc (O := O91) 17 [Value.slice none 0 0, vi 0, vi 0] ty41 rfl rfl ?_
      intro p98 O99 wd100 hst101 hb97
      refine WL.store (v := Value.agg (List.toArray [Value.slice none 0 0, vi 0, vi 0])) (cells' := [Value.slice none 0 0, vi 0, vi 0]) ty41 rfl rfl hb97 rfl (Nat.le_of_ble_eq_true rfl) rfl rfl ?_
      intro wd102 hst103 hb104
      refine WL.nil ?_
      refine At.then ?_
      refine WC.seq ?_
      refine WC.region ?_
      refine WL.y (Y.assign rfl) rfl ?_
      refine WL.nil ?_
      refine At.then ?_
      refine WC.seq ?_
      refine WC.seq ?_
      refine WC.region ?_
      refine WL.y (Y.assign rfl) rfl ?_
      refine WL.nil ?_
      refine At.then ?_
      obtain ⟨p117, h, hk118⟩ := flow1 h
      refine WC.join (σ := (List Int × List UInt8 × Int × Int × Own × Value)) (fun x w' => p117 = .go (x.1, x.2.1, x.2.2.1, x.2.2.2.1) ∧ Stp [11, 12, 13, 14, 15, 16, 17, 18, 19, 1001, 1002, 1003] O99 wd102 x.2.2.2.2.1 w' ∧ Sl Rep.i w' (frs x.2.2.2.2.1) vr51 x.1 ∧ OwnSl 1005 Rep.b 5 x.2.2.2.2.1 w' x.2.2.2.2.2 x.2.1 ∧ Blk 15 x.2.2.2.2.1 w' p83 64 [x.2.2.2.2.2, vi x.2.2.1]) (fun x => [(7, vr51), (10, Value.pointer (some ⟨p83, 0, none⟩)), (12, vi x.2.2.2.1)]) ?_ ?_
      ·refine WC.block ?_
       obtain ⟨d119, hd119, h⟩ := bnd h
       obtain ⟨p120, v121, rfl, fb123, f122⟩ := OptP.some f34 hd119
       have hf124 : Sl Rep.b wd36 (frs O38) v121 d119.b := Sl.adoptF f122 (fun k hk => ⟨hk.1, labP_ne hk.2⟩) hnew40
       have hb125 : Blk 11 O38 wd36 p120 58 [v121, vi d119.n, vi d119.at_] := Blk.new fb123 hnew40 (labP_at p120 11)
       obtain ⟨p173, h, hk175⟩ := flow1 h
       obtain ⟨k174, h⟩ := loop_some h
       refine WC.joinB 0 (σ := (List Int × List UInt8 × Int × Int × Own × Value)) (fun x w' => p173 = .go (x.1, x.2.1, x.2.2.1, x.2.2.2.1) ∧ Stp [11, 12, 13, 14, 15, 16, 17, 18, 19, 1001, 1002] O99 wd102 x.2.2.2.2.1 w' ∧ Sl Rep.i w' (frs x.2.2.2.2.1) vr51 x.1 ∧ OwnSl 1003 Rep.b 5 x.2.2.2.2.1 w' x.2.2.2.2.2 x.2.1 ∧ Blk 15 x.2.2.2.2.1 w' p83 64 [x.2.2.2.2.2, vi x.2.2.1]) (fun x => [(7, vr51), (10, Value.pointer (some ⟨p83, 0, none⟩)), (12, vi x.2.2.2.1)]) ?_ ?_
       ·have hf176 := hf56.st hst67 rfl rfl rfl
        have hf177 := hf176.st hst79 rfl rfl rfl
        have hf178 := hf177.st hst94 rfl rfl rfl
        have hf179 := hf178.st hst101 rfl rfl rfl
        have hf180 := hf179.st hst103 rfl rfl rfl
        obtain ⟨O181, hst182, hf183⟩ := OwnSl.giveF rfl Flat.i hf180
        have hf184 := hf96.st hst101 rfl rfl rfl
        have hf185 := hf184.st hst103 rfl rfl rfl
        have hf186 := hf185.st hst182 rfl rfl rfl
        obtain ⟨O187, hst188, ho189⟩ := OwnSl.rlb 1002 rfl hf186
        have hf190 := hf124.mono (frs_st hst55 rfl)
        have hf191 := hf190.mono (frs_st hst67 rfl)
        have hf192 := hf191.mono (frs_st hst79 rfl)
        have hf193 := hf192.mono (frs_st hst94 rfl)
        have hf194 := hf193.mono (frs_st hst101 rfl)
        have hf195 := hf194.mono (frs_st hst103 rfl)
        have hf196 := hf195.mono (frs_st hst182 rfl)
        have hf197 := hf196.mono (frs_st hst188 rfl)
        have hf198 := hb125.st hst55 rfl
        have hf199 := hf198.st hst67 rfl
        have hf200 := hf199.st hst79 rfl
        have hf201 := hf200.st hst94 rfl
        have hf202 := hf201.st hst101 rfl
        have hf203 := hf202.st hst103 rfl
        have hf204 := hf203.st hst182 rfl
        have hf205 := hf204.st hst188 rfl
        have hf206 := hf183.mono (frs_st hst188 rfl)
        have hf207 := hb68.st hst79 rfl
        have hf208 := hf207.st hst94 rfl
        have hf209 := hf208.st hst101 rfl
        have hf210 := hf209.st hst103 rfl
        have hf211 := hf210.st hst182 rfl
        have hf212 := hf211.st hst188 rfl
        have hf213 := hb80.st hst94 rfl
        have hf214 := hf213.st hst101 rfl
        have hf215 := hf214.st hst103 rfl
        have hf216 := hf215.st hst182 rfl
        have hf217 := hf216.st hst188 rfl
        have hf218 := hb95.st hst101 rfl
        have hf219 := hf218.st hst103 rfl
        have hf220 := hf219.st hst182 rfl
        have hf221 := hf220.st hst188 rfl
        have hf222 := hb104.st hst182 rfl
        have hf223 := hf222.st hst188 rfl
        refine WC.loop (σ := (List UInt8 × Int × Int × List Int × Int × UInt64 × Int × Int × Int × UInt64 × Int × Int × List UInt8 × Int × List UInt64 × Int × Int × Int × Int × Own × Value × Value × Value)) (fun x k w' => loopN k (law07_XorTakes_lp1 a1) (x.1, x.2.1, x.2.2.1, x.2.2.2.1, x.2.2.2.2.1, x.2.2.2.2.2.1, x.2.2.2.2.2.2.1, x.2.2.2.2.2.2.2.1, x.2.2.2.2.2.2.2.2.1, x.2.2.2.2.2.2.2.2.2.1, x.2.2.2.2.2.2.2.2.2.2.1, x.2.2.2.2.2.2.2.2.2.2.2.1, x.2.2.2.2.2.2.2.2.2.2.2.2.1, x.2.2.2.2.2.2.2.2.2.2.2.2.2.1, x.2.2.2.2.2.2.2.2.2.2.2.2.2.2.1, x.2.2.2.2.2.2.2.2.2.2.2.2.2.2.2.1, x.2.2.2.2.2.2.2.2.2.2.2.2.2.2.2.2.1, x.2.2.2.2.2.2.2.2.2.2.2.2.2.2.2.2.2.1, x.2.2.2.2.2.2.2.2.2.2.2.2.2.2.2.2.2.2.1) = some p173 ∧ Stp [11, 12, 13, 14, 15, 16, 17, 18, 19, 1001, 1002] O99 wd102 x.2.2.2.2.2.2.2.2.2.2.2.2.2.2.2.2.2.2.2.1 w' ∧ Sl Rep.b w' (imm x.2.2.2.2.2.2.2.2.2.2.2.2.2.2.2.2.2.2.2.1) x.2.2.2.2.2.2.2.2.2.2.2.2.2.2.2.2.2.2.2.2.1 x.1 ∧ Blk 11 x.2.2.2.2.2.2.2.2.2.2.2.2.2.2.2.2.2.2.2.1 w' p120 58 [x.2.2.2.2.2.2.2.2.2.2.2.2.2.2.2.2.2.2.2.2.1, vi x.2.1, vi x.2.2.1] ∧ Sl Rep.i w' (frs x.2.2.2.2.2.2.2.2.2.2.2.2.2.2.2.2.2.2.2.1) vr51 x.2.2.2.1 ∧ Blk 13 x.2.2.2.2.2.2.2.2.2.2.2.2.2.2.2.2.2.2.2.1 w' p59 62 [vi x.2.2.2.2.1, vu x.2.2.2.2.2.1, vi x.2.2.2.2.2.2.1, vi x.2.2.2.2.2.2.2.1] ∧ Blk 14 x.2.2.2.2.2.2.2.2.2.2.2.2.2.2.2.2.2.2.2.1 w' p71 62 [vi x.2.2.2.2.2.2.2.2.1, vu x.2.2.2.2.2.2.2.2.2.1, vi x.2.2.2.2.2.2.2.2.2.2.1, vi x.2.2.2.2.2.2.2.2.2.2.2.1] ∧ OwnSl 1002 Rep.b 5 x.2.2.2.2.2.2.2.2.2.2.2.2.2.2.2.2.2.2.2.1 w' x.2.2.2.2.2.2.2.2.2.2.2.2.2.2.2.2.2.2.2.2.2.1 x.2.2.2.2.2.2.2.2.2.2.2.2.1 ∧ Blk 15 x.2.2.2.2.2.2.2.2.2.2.2.2.2.2.2.2.2.2.2.1 w' p83 64 [x.2.2.2.2.2.2.2.2.2.2.2.2.2.2.2.2.2.2.2.2.2.1, vi x.2.2.2.2.2.2.2.2.2.2.2.2.2.1] ∧ Sl Rep.u w' (frs x.2.2.2.2.2.2.2.2.2.2.2.2.2.2.2.2.2.2.2.1) x.2.2.2.2.2.2.2.2.2.2.2.2.2.2.2.2.2.2.2.2.2.2 x.2.2.2.2.2.2.2.2.2.2.2.2.2.2.1 ∧ Blk 17 x.2.2.2.2.2.2.2.2.2.2.2.2.2.2.2.2.2.2.2.1 w' p98 41 [x.2.2.2.2.2.2.2.2.2.2.2.2.2.2.2.2.2.2.2.2.2.2, vi x.2.2.2.2.2.2.2.2.2.2.2.2.2.2.2.1, vi x.2.2.2.2.2.2.2.2.2.2.2.2.2.2.2.2.1]) (fun x => [(1, vi a1), (5, Value.pointer (some ⟨p120, 0, none⟩)), (7, vr51), (8, Value.pointer (some ⟨p59, 0, none⟩)), (9, Value.pointer (some ⟨p71, 0, none⟩)), (10, Value.pointer (some ⟨p83, 0, none⟩)), (11, Value.pointer (some ⟨p98, 0, none⟩)), (12, vi x.2.2.2.2.2.2.2.2.2.2.2.2.2.2.2.2.2.1), (13, vi x.2.2.2.2.2.2.2.2.2.2.2.2.2.2.2.2.2.2.1)]) (d119.b, d119.n, d119.at_, r45, r57.n, r57.last, r57.win.ahead, r57.win.size, r69.n, r69.last, r69.win.ahead, r69.win.size, r81.b, r81.n, [], 0, 0, 0, 0, O187, v121, u84, Value.slice none 0 0) k174 (.cons rfl (.cons rfl (.cons rfl (.cons rfl (.cons rfl (.cons rfl (.cons rfl (.cons rfl (.cons rfl .nil))))))))) ⟨h, (Stp.trans (Stp.up hst182 rfl) (Stp.up hst188 rfl)), (Sl.mono hf197 frs_imm), hf205, hf206, hf212, hf217, ho189, hf221, (Or.inl ⟨rfl, rfl⟩), hf223⟩ ?_
        rintro ⟨c127, c130, c131, l132, c136, c137, c138, c139, c141, c142, c143, c144, c146, c149, c151, c154, c155, at156, i157, O158, v128, v147, v152⟩ k174 wd159 ⟨h, hst160, hf129, hb126, hf134, hb135, hb140, hf148, hb145, hf153, hb150⟩
        obtain ⟨j224, q225, rfl, h, hn226⟩ := rnd1 h
        unfold law07_XorTakes_lp1 at h
        try dsimp only at h hst160 hf129 hb126 hf134 hb135 hb140 hf148 hb145 hf153 hb150
        refine (show WC _ _ _ _ [(1, vi a1), (5, Value.pointer (some ⟨p120, 0, none⟩)), (7, vr51), (8, Value.pointer (some ⟨p59, 0, none⟩)), (9, Value.pointer (some ⟨p71, 0, none⟩)), (10, Value.pointer (some ⟨p83, 0, none⟩)), (11, Value.pointer (some ⟨p98, 0, none⟩)), (12, vi at156), (13, vi i157)] _ from ?_)
        refine WC.seq ?_
        refine WC.seq ?_
        refine WC.region ?_
        refine WL.y (Y.move rfl) rfl ?_
        refine WL.y (Y.move rfl) rfl ?_
        refine WL.y (Y.lss_i rfl rfl) rfl ?_
        refine WL.nil ?_
        refine At.then ?_
        rcases cnd h with ⟨hc227, h⟩ | ⟨hc227, h⟩
        ·refine WC.condT' rfl hc227 ?_
         refine WC.skip ?_
         refine At.then ?_
         refine WC.seq ?_
         refine WC.block ?_
         refine WC.seq ?_
         refine WC.drawH [18, 19] [0, 1, 2, 3, 4, 5] O158 7 fmix rfl (by kernel_rfl) ?_
         intro wd228 hst229
         refine WD.y 0 rfl (by kernel_rfl) (fun wd231 O230 hst232 => have hf233 := hb150.st hst229 rfl; have hf234 := hf233.st hst232 rfl; Y.loadAg ty41 rfl rfl (hf234.cells 0 [v152, vi c154, vi c155] rfl) rfl) rfl ?_
         refine WD.y 1 rfl (by kernel_rfl) (fun _ _ _ => Y.move rfl) rfl ?_
         refine WD.y 2 rfl (by kernel_rfl) (fun _ _ _ => Y.move rfl) rfl ?_
         obtain ⟨t241, ht241, h⟩ := bnd h
         have hf244 := hf134.mono (frs_st hst229 rfl)
         obtain ⟨v242, hY245, hf243⟩ := Sl.slice (ρ := [(52, vr51), (53, vi at156)]) (x := (.tmp 52)) (lo := (some (.tmp 53))) (hi := none) ty32 ty3 rfl rfl rfl hf244 ht241
         refine WD.y 3 rfl (by kernel_rfl) (fun _ _ _ => Y.sub (.cons rfl (.cons rfl .nil)) (hY245 _ _)) rfl ?_
         obtain ⟨p262, h, hk263⟩ := bnd h
         refine WD.join (σ := (UInt64 × Int × List UInt64 × Int × Int × Int × Own × Nat × Value)) (f' := 1) [5, 4, 3, 2, 1, 0] (fun x O' w' => (x.1, x.2.1, x.2.2.1, x.2.2.2.1, x.2.2.2.2.1, x.2.2.2.2.2.1) = p262 ∧ Stp [18, 19] O158 wd228 x.2.2.2.2.2.2.1 w' ∧ Blk 1001 x.2.2.2.2.2.2.1 w' x.2.2.2.2.2.2.2.1 43 [vu 0, vi 0, Value.slice none 0 0, vi 0, vi 0, vi 0] ∧ Sl Rep.u w' (frs x.2.2.2.2.2.2.1) x.2.2.2.2.2.2.2.2 x.2.2.1 ∧ x.2.2.2.2.2.2.1 = O') (fun x => [(1, vi a1), (5, Value.pointer (some ⟨p120, 0, none⟩)), (7, vr51), (8, Value.pointer (some ⟨p59, 0, none⟩)), (9, Value.pointer (some ⟨p71, 0, none⟩)), (10, Value.pointer (some ⟨p83, 0, none⟩)), (11, Value.pointer (some ⟨p98, 0, none⟩)), (12, vi at156), (13, vi i157), (14, Value.pointer (some ⟨x.2.2.2.2.2.2.2.1, 0, none⟩)), (55, Value.agg (List.toArray [vu x.1, vi x.2.1, x.2.2.2.2.2.2.2.2, vi x.2.2.2.1, vi x.2.2.2.2.1, vi x.2.2.2.2.2.1]))]) (fun hJ264 => ?_) ?_
         ·refine WD.heavy2 4 5 rfl rfl (by kernel_rfl) ?_ ?_
          ·have hf265 := hf153.mono (frs_st hst229 rfl)
           obtain ⟨r266, hp267, h⟩ := bnd h
           refine WL.call (vals := [Value.agg (List.toArray [v152, vi c154, vi c155]), v242]) kok12 rfl rfl (c_ref07_Get (A := fun _ => True) (a0 := (ref07_State.mk c151 (ref07_Window.mk c154 c155))) (Sl.all hf265) (Sl.all hf243) hp267) ?_
           rintro vr272 wd271 ⟨u268, rfl, hm270, f269⟩
           obtain ⟨O273, hold274, hnew275, hst276⟩ := adoptE O158 (fun k => 1) hm270
           have hf277 : Sl Rep.u wd271 (frs O273) u268 r266.S.L := Sl.adoptF f269 (fun k hk => ⟨hk, rfl⟩) hnew275
           refine WL.nil ?_
           refine At.dq (Stp.up hst276 rfl) ?_
           refine WD.heavy 5 rfl (by kernel_rfl) ?_
           refine WL.alloc (O := O273) 18 [vu 0, vi 0, Value.slice none 0 0, vi 0, vi 0, vi 0] ty43 rfl rfl ?_
           intro p279 O280 wd281 hst282 hb278
           refine WL.nil ?_
           refine At.dq (Stp.up hst282 rfl) ?_
           obtain ⟨O283, hst284, hb285⟩ := Blk.rlb 1001 rfl hb278
           have hf286 := hf277.mono (frs_st hst282 rfl)
           have hf287 := hf286.mono (frs_st hst284 rfl)
           refine WD.own (Stp.up hst284 rfl) ?_
           refine WD.perm _ [5, 4, 3, 2, 1, 0] (by kernel_rfl) ?_
           exact hJ264 (r266.V, r266.N, r266.S.L, r266.S.W.From, r266.S.W.Size, r266.E, O283, p279, u268) _ _ _ ⟨some1 h, (Stp.trans (Stp.up hst276 rfl) (Stp.trans (Stp.up hst282 rfl) (Stp.up hst284 rfl))), hb285, hf287, rfl⟩ (.cons rfl (.cons rfl (.cons rfl (.cons rfl (.cons rfl (.cons rfl (.cons rfl (.cons rfl (.cons rfl (.cons rfl (.cons rfl .nil)))))))))))
          ·try simp only [Option.bind_assoc] at h
           try simp only [Option.bind_some] at h
           refine WL.alloc (O := O158) 19 [vu 0, vi 0, Value.slice none 0 0, vi 0, vi 0, vi 0] ty43 rfl rfl ?_
           intro p289 O290 wd291 hst292 hb288
           refine WL.nil ?_
           refine At.dq (Stp.up hst292 rfl) ?_
           refine WD.heavy 4 rfl (by kernel_rfl) ?_
           have hf293 := hf153.mono (frs_st hst229 rfl)
           have hf294 := hf293.mono (frs_st hst292 rfl)
           have hf295 := hf243.mono (frs_st hst292 rfl)
           obtain ⟨r296, hp297, h⟩ := bnd h
           refine WL.call (vals := [Value.agg (List.toArray [v152, vi c154, vi c155]), v242]) kok12 rfl rfl (c_ref07_Get (A := fun _ => True) (a0 := (ref07_State.mk c151 (ref07_Window.mk c154 c155))) (Sl.all hf294) (Sl.all hf295) hp297) ?_
           rintro vr302 wd301 ⟨u298, rfl, hm300, f299⟩
           obtain ⟨O303, hold304, hnew305, hst306⟩ := adoptE O290 (fun k => 1) hm300
           have hf307 : Sl Rep.u wd301 (frs O303) u298 r296.S.L := Sl.adoptF f299 (fun k hk => ⟨hk, rfl⟩) hnew305
           refine WL.nil ?_
           refine At.dq (Stp.up hst306 rfl) ?_
           have hf308 := hb288.st hst306 rfl
           obtain ⟨O309, hst310, hb311⟩ := Blk.rlb 1001 rfl hf308
           have hf312 := hf307.mono (frs_st hst310 rfl)
           refine WD.own (Stp.up hst310 rfl) ?_
           refine WD.perm _ [5, 4, 3, 2, 1, 0] (by kernel_rfl) ?_
           exact hJ264 (r296.V, r296.N, r296.S.L, r296.S.W.From, r296.S.W.Size, r296.E, O309, p289, u298) _ _ _ ⟨some1 h, (Stp.trans (Stp.up hst292 rfl) (Stp.trans (Stp.up hst306 rfl) (Stp.up hst310 rfl))), hb311, hf312, rfl⟩ (.cons rfl (.cons rfl (.cons rfl (.cons rfl (.cons rfl (.cons rfl (.cons rfl (.cons rfl (.cons rfl (.cons rfl (.cons rfl .nil)))))))))))
         ·rintro ⟨x251, x252, x253, x256, x257, x258, O259, b249, v254⟩ _ wd260 ⟨rfl, hst261, hb250, hf255, rfl⟩
          replace h := hk263
          try dsimp only at h hst261 hb250 hf255
          refine (show WD _ _ _ _ _ _ _ _ [(1, vi a1), (5, Value.pointer (some ⟨p120, 0, none⟩)), (7, vr51), (8, Value.pointer (some ⟨p59, 0, none⟩)), (9, Value.pointer (some ⟨p71, 0, none⟩)), (10, Value.pointer (some ⟨p83, 0, none⟩)), (11, Value.pointer (some ⟨p98, 0, none⟩)), (12, vi at156), (13, vi i157), (14, Value.pointer (some ⟨b249, 0, none⟩)), (55, Value.agg (List.toArray [vu x251, vi x252, v254, vi x256, vi x257, vi x258]))] _ _ from ?_)
          refine WD.phase [1001] [0, 1, 2, 3, 4, 5, 6] (by kernel_rfl) (by kernel_rfl) ?_
          refine WD.heavy 6 rfl (by kernel_rfl) ?_
          have hh316 := h
          obtain ⟨p313, m314, c315, rfl⟩ := hf255.shape
          have h := hh316
          refine WL.store (v := Value.agg (List.toArray [vu x251, vi x252, (Value.slice p313 m314 c315), vi x256, vi x257, vi x258])) (cells' := [vu x251, vi x252, (Value.slice p313 m314 c315), vi x256, vi x257, vi x258]) ty43 rfl rfl hb250 rfl (Nat.le_of_ble_eq_true rfl) rfl rfl ?_
          intro wd317 hst318 hb319
          refine WL.nil ?_
          refine At.dq (Stp.up hst318 rfl) ?_
          refine WD.done_ (by kernel_rfl) ?_
          refine At.then ?_
          refine WC.seq ?_
          refine WC.region ?_
          refine WL.y (Y.move rfl) rfl ?_
          refine WL.y (Y.move rfl) rfl ?_
          have hf320 := hb135.st hst229 rfl
          have hf321 := hf320.st hst261 rfl
          have hf322 := hf321.st hst318 rfl
          have hf323 := hb126.st hst229 rfl
          have hf324 := hf323.st hst261 rfl
          have hf325 := hf324.st hst318 rfl
          have hf326 := hf129.mono (imm_st hst229 rfl rfl)
          have hf327 := hf326.mono (imm_st hst261 rfl rfl)
          have hf328 := hf327.mono (imm_st hst318 rfl rfl)
          have hf329 := hG12.st hst22 rfl
          have hf330 := hf329.st hst41 rfl
          have hf331 := hf330.st hst55 rfl
          have hf332 := hf331.st hst67 rfl
          have hf333 := hf332.st hst79 rfl
          have hf334 := hf333.st hst94 rfl
          have hf335 := hf334.st hst101 rfl
          have hf336 := hf335.st hst103 rfl
          have hf337 := hf336.st hst160 rfl
          have hf338 := hf337.st hst229 rfl
          have hf339 := hf338.st hst261 rfl
          have hf340 := hf339.st hst318 rfl
          have hf341 := hG13.st hst22 rfl
          have hf342 := hf341.st hst41 rfl
          have hf343 := hf342.st hst55 rfl
          have hf344 := hf343.st hst67 rfl
          have hf345 := hf344.st hst79 rfl
          have hf346 := hf345.st hst94 rfl
          have hf347 := hf346.st hst101 rfl
          have hf348 := hf347.st hst103 rfl
          have hf349 := hf348.st hst160 rfl
          have hf350 := hf349.st hst229 rfl
          have hf351 := hf350.st hst261 rfl
          have hf352 := hf351.st hst318 rfl
          obtain ⟨⟨r353, r354, r355, r356⟩, hp357, h⟩ := bnd h
          refine WL.call (vals := [Value.pointer (some ⟨p59, 0, none⟩), Value.pointer (some ⟨p120, 0, none⟩)]) kok13 rfl rfl (c_xor_Row_Get (A := imm O259) (a0 := (xor_Row.mk c136 c137 (xor_window.mk c138 c139))) (a1 := (bitio_Reader.mk c127 c130 c131)) hf322.blk hf328 hf325.blk hf340.at_ (CAt.inI hf340) hf352.at_ (CAt.inI hf352) (ne_blk hf322.lab hf325.lab rfl) (fun k hk => ⟨imm_ne hf322.lab rfl k hk, imm_ne hf325.lab rfl k hk⟩) hp357) ?_
          rintro vr364 wd363 ⟨z358, rfl, hm362, f359, f360, f361⟩
          obtain ⟨O365, hold366, hnew367, hst368⟩ := adopt O259 (fun k => 1) [13, 11] hm362 (memOr (memB hf322.lab rfl) (memB hf325.lab rfl))
          have hb369 : Blk 13 O365 wd363 p59 62 [vi r355.n, vu r355.last, vi r355.win.ahead, vi r355.win.size] := Blk.adopt hf322 hold366 f359
          have hf370 : Sl Rep.b wd363 (imm O365) z358 r356.b := Sl.adoptI (O := O259) f360 (fun _ hk => hk) (fun _ _ => Nat.le_refl _) hold366 hnew367
          have hb371 : Blk 11 O365 wd363 p120 58 [z358, vi r356.n, vi r356.at_] := Blk.adopt hf325 hold366 f361
          refine WL.y (Y.move rfl) rfl ?_
          refine WL.y (Y.extract rfl rfl) rfl ?_
          refine WL.y (Y.extract rfl rfl) rfl ?_
          refine WL.y (Y.assign rfl) rfl ?_
          refine WL.y (Y.assign rfl) rfl ?_
          refine WL.nil ?_
          refine At.then ?_
          refine WC.seq ?_
          refine WC.seq ?_
          refine WC.drawH [] [0, 1, 2, 3, 4, 5, 6, 7, 8, 9, 10, 11, 12, 13, 14, 15, 16, 17, 18] O365 19 fmix rfl (by kernel_rfl) ?_
          intro wd372 hst373
          refine WD.y 0 rfl (by kernel_rfl) (fun _ _ _ => Y.move rfl) rfl ?_
          refine WD.y 1 rfl (by kernel_rfl) (fun _ _ _ => Y.fieldAddr fo43_0 rfl) rfl ?_
          refine WD.y 2 rfl (by kernel_rfl) (fun wd381 O380 hst382 => have hf383 := hb319.st hst368 rfl; have hf384 := hf383.st hst373 rfl; have hf385 := hf384.st hst382 rfl; Y.loadSc ty23 rfl rfl (hf385.cell 0 _ rfl)) rfl ?_
          refine WD.y 3 rfl (by kernel_rfl) (fun _ _ _ => Y.neq_u rfl rfl) rfl ?_
          refine WD.y 4 rfl (by kernel_rfl) (fun _ _ _ => Y.move rfl) rfl ?_
          refine WD.join (σ := Unit) (f' := 9) [9, 8, 7, 6, 5, 4, 3, 2, 1, 0] (fun _ O' w' => O365 = O' ∧ wd372 = w') (fun _ => [(1, vi a1), (5, Value.pointer (some ⟨p120, 0, none⟩)), (7, vr51), (8, Value.pointer (some ⟨p59, 0, none⟩)), (9, Value.pointer (some ⟨p71, 0, none⟩)), (10, Value.pointer (some ⟨p83, 0, none⟩)), (11, Value.pointer (some ⟨p98, 0, none⟩)), (12, vi at156), (13, vi i157), (14, Value.pointer (some ⟨b249, 0, none⟩)), (15, vu r353), (16, vi r354), (71, Value.bool ((!decide (r353 = x251)) || (!decide (r354 = x258))))]) (fun hJ392 => ?_) ?_
          ·refine WD.part 66 rfl (fun hE393 => ?_) (fun hE393 => ?_)
           ·refine WD.gS 5 rfl (by kernel_rfl) rfl rfl rfl rfl ?_
            refine WD.gS 6 rfl (by kernel_rfl) rfl rfl rfl rfl ?_
            refine WD.gS 7 rfl (by kernel_rfl) rfl rfl rfl rfl ?_
            refine WD.gS 8 rfl (by kernel_rfl) rfl rfl rfl rfl ?_
            refine WD.y 9 rfl (by kernel_rfl) (fun _ _ _ => Y.pick (b := true) rfl rfl) rfl ?_
            refine WD.ren (v' := Value.bool ((!decide (r353 = x251)) || (!decide (r354 = x258)))) 71 rfl (congrArg Value.bool (orT hE393)) ?_
            exact hJ392 () _ _ _ ⟨rfl, rfl⟩ (.cons rfl (.cons rfl (.cons rfl (.cons rfl (.cons rfl (.cons rfl (.cons rfl (.cons rfl (.cons rfl (.cons rfl (.cons rfl (.cons rfl (.cons rfl .nil)))))))))))))
           ·refine WD.gT 5 rfl (by kernel_rfl) rfl rfl (fun _ _ _ => Y.move rfl) rfl ?_
            refine WD.gT 6 rfl (by kernel_rfl) rfl rfl (fun _ _ _ => Y.fieldAddr fo43_3 rfl) rfl ?_
            refine WD.gT 7 rfl (by kernel_rfl) rfl rfl (fun wd404 O403 hst405 => have hf406 := hb319.st hst368 rfl; have hf407 := hf406.st hst373 rfl; have hf408 := hf407.st hst405 rfl; Y.loadSc ty29 rfl rfl (hf408.cell 5 _ rfl)) rfl ?_
            refine WD.gT 8 rfl (by kernel_rfl) rfl rfl (fun _ _ _ => Y.neq_i rfl rfl) rfl ?_
            refine WD.y 9 rfl (by kernel_rfl) (fun _ _ _ => Y.pick (b := false) rfl rfl) rfl ?_
            refine WD.ren (v' := Value.bool ((!decide (r353 = x251)) || (!decide (r354 = x258)))) 71 rfl (congrArg Value.bool (orF hE393)) ?_
            exact hJ392 () _ _ _ ⟨rfl, rfl⟩ (.cons rfl (.cons rfl (.cons rfl (.cons rfl (.cons rfl (.cons rfl (.cons rfl (.cons rfl (.cons rfl (.cons rfl (.cons rfl (.cons rfl (.cons rfl .nil)))))))))))))
          ·rintro _ _ _ ⟨rfl, rfl⟩
           refine (show WD _ _ _ _ _ _ _ _ [(1, vi a1), (5, Value.pointer (some ⟨p120, 0, none⟩)), (7, vr51), (8, Value.pointer (some ⟨p59, 0, none⟩)), (9, Value.pointer (some ⟨p71, 0, none⟩)), (10, Value.pointer (some ⟨p83, 0, none⟩)), (11, Value.pointer (some ⟨p98, 0, none⟩)), (12, vi at156), (13, vi i157), (14, Value.pointer (some ⟨b249, 0, none⟩)), (15, vu r353), (16, vi r354), (71, Value.bool ((!decide (r353 = x251)) || (!decide (r354 = x258))))] _ _ from ?_)
           refine WD.y 10 rfl (by kernel_rfl) (fun _ _ _ => Y.move rfl) rfl ?_
           obtain ⟨p422, h, hk423⟩ := bnd h
           refine WD.join (σ := (Bool × Own)) (f' := 0) [18, 17, 12, 16, 15, 14, 13, 11, 10, 9, 8, 7, 6, 5, 4, 3, 2, 1, 0] (fun x O' w' => x.1 = p422 ∧ Stp [] O365 wd372 x.2 w' ∧ x.2 = O') (fun x => [(1, vi a1), (5, Value.pointer (some ⟨p120, 0, none⟩)), (7, vr51), (8, Value.pointer (some ⟨p59, 0, none⟩)), (9, Value.pointer (some ⟨p71, 0, none⟩)), (10, Value.pointer (some ⟨p83, 0, none⟩)), (11, Value.pointer (some ⟨p98, 0, none⟩)), (12, vi at156), (13, vi i157), (14, Value.pointer (some ⟨b249, 0, none⟩)), (15, vu r353), (16, vi r354), (80, Value.bool x.1)]) (fun hJ424 => ?_) ?_
           ·rcases cnd h with ⟨hE425, h⟩ | ⟨hE425, h⟩
            ·refine WD.ren 72 rfl (congrArg Value.bool hE425) ?_
             refine WD.gS 11 rfl (by kernel_rfl) rfl rfl rfl rfl ?_
             refine WD.gS 13 rfl (by kernel_rfl) rfl rfl rfl rfl ?_
             refine WD.gS 14 rfl (by kernel_rfl) rfl rfl rfl rfl ?_
             refine WD.gS 15 rfl (by kernel_rfl) rfl rfl rfl rfl ?_
             refine WD.gS 16 rfl (by kernel_rfl) rfl rfl rfl rfl ?_
             refine WD.heavy 12 rfl (by kernel_rfl) ?_
             refine WL.gS rfl rfl rfl rfl ?_
             refine WL.nil ?_
             refine At.dq (Stp.refl _ _ _) ?_
             refine WD.gS 17 rfl (by kernel_rfl) rfl rfl rfl rfl ?_
             refine WD.y 18 rfl (by kernel_rfl) (fun _ _ _ => Y.pick (b := true) rfl rfl) rfl ?_
             refine WD.ren 72 rfl (congrArg Value.bool hE425.symm) ?_
             exact hJ424 (true, O365) _ _ _ ⟨some1 h, (Stp.refl _ _ _), rfl⟩ (.cons rfl (.cons rfl (.cons rfl (.cons rfl (.cons rfl (.cons rfl (.cons rfl (.cons rfl (.cons rfl (.cons rfl (.cons rfl (.cons rfl (.cons rfl .nil)))))))))))))
            ·refine WD.ren 72 rfl (congrArg Value.bool hE425) ?_
             refine WD.gT 11 rfl (by kernel_rfl) rfl rfl (fun _ _ _ => Y.move rfl) rfl ?_
             refine WD.gT 13 rfl (by kernel_rfl) rfl rfl (fun _ _ _ => Y.move rfl) rfl ?_
             refine WD.gT 14 rfl (by kernel_rfl) rfl rfl (fun _ _ _ => Y.fieldAddr fo43_1 rfl) rfl ?_
             refine WD.gT 15 rfl (by kernel_rfl) rfl rfl (fun wd439 O438 hst440 => have hf441 := hb319.st hst368 rfl; have hf442 := hf441.st hst373 rfl; have hf443 := hf442.st hst440 rfl; Y.loadSc ty3 rfl rfl (hf443.cell 1 _ rfl)) rfl ?_
             refine WD.gT 16 rfl (by kernel_rfl) rfl rfl (fun _ _ _ => Y.add_i rfl rfl) rfl ?_
             refine WD.heavy 12 rfl (by kernel_rfl) ?_
             refine WL.ung rfl rfl ?_
             have hf447 := hb371.st hst373 rfl
             have hf448 := hf370.mono (imm_st hst373 rfl rfl)
             obtain ⟨r449, hp450, h⟩ := bnd h
             refine WL.call (vals := [Value.pointer (some ⟨p120, 0, none⟩)]) kok14 rfl rfl (c_bitio_Reader_At (A := fun _ => True) (a0 := r356) (Sl.all hf448) hf447.blk trivial hp450) ?_
             rintro vr453 wd452 ⟨rfl, hm451⟩
             obtain ⟨O454, hold455, hnew456, hst457⟩ := adoptE O365 (fun k => 1) hm451
             refine WL.nil ?_
             refine At.dq (Stp.up hst457 rfl) ?_
             refine WD.gT 17 rfl (by kernel_rfl) rfl rfl (fun _ _ _ => Y.neq_i rfl rfl) rfl ?_
             refine WD.y 18 rfl (by kernel_rfl) (fun _ _ _ => Y.pick (b := false) rfl rfl) rfl ?_
             refine WD.ren 72 rfl (congrArg Value.bool hE425.symm) ?_
             exact hJ424 ((!decide (r449 = w64 (at156 + x252))), O454) _ _ _ ⟨some1 h, (Stp.up hst457 rfl), rfl⟩ (.cons rfl (.cons rfl (.cons rfl (.cons rfl (.cons rfl (.cons rfl (.cons rfl (.cons rfl (.cons rfl (.cons rfl (.cons rfl (.cons rfl (.cons rfl .nil)))))))))))))
           ·rintro ⟨x418, O419⟩ _ wd420 ⟨rfl, hst421, rfl⟩
            replace h := hk423
            try dsimp only at h hst421
            refine (show WD _ _ _ _ _ _ _ _ [(1, vi a1), (5, Value.pointer (some ⟨p120, 0, none⟩)), (7, vr51), (8, Value.pointer (some ⟨p59, 0, none⟩)), (9, Value.pointer (some ⟨p71, 0, none⟩)), (10, Value.pointer (some ⟨p83, 0, none⟩)), (11, Value.pointer (some ⟨p98, 0, none⟩)), (12, vi at156), (13, vi i157), (14, Value.pointer (some ⟨b249, 0, none⟩)), (15, vu r353), (16, vi r354), (80, Value.bool x418)] _ _ from ?_)
            refine WD.done_ (by kernel_rfl) ?_
            refine At.then ?_
            rcases cnd h with ⟨hc464, h⟩ | ⟨hc464, h⟩
            ·refine WC.condT' rfl hc464 ?_
             refine WC.seq ?_
             refine WC.region ?_
             refine WL.y (Y.assign rfl) rfl ?_
             refine WL.nil ?_
             refine At.then ?_
             refine WC.ret ?_
             refine At.thenR ?_
             refine At.inBlockR ?_
             refine At.thenR ?_
             refine At.loopR ?_
             have h := outr1 h hn226 hk175
             refine At.joinBR ?_
             refine At.inBlockR ?_
             have h := outs1 h hk118
             refine At.joinR ?_
             refine At.thenR ?_
             obtain rfl := some1 h
             have hs465 : Stp [11, 12, 13, 14, 15, 16, 17, 18, 19, 1001, 1002] (Lg.O0 A) w O419 wd420 := (Stp.trans (Stp.up hst22 rfl) (Stp.trans (Stp.up hst41 rfl) (Stp.trans (Stp.up hst55 rfl) (Stp.trans (Stp.up hst67 rfl) (Stp.trans (Stp.up hst79 rfl) (Stp.trans (Stp.up hst94 rfl) (Stp.trans (Stp.up hst101 rfl) (Stp.trans (Stp.up hst103 rfl) (Stp.trans (Stp.up hst160 rfl) (Stp.trans (Stp.up hst229 rfl) (Stp.trans (Stp.up hst261 rfl) (Stp.trans (Stp.up hst318 rfl) (Stp.trans (Stp.up hst368 rfl) (Stp.trans (Stp.up hst373 rfl) (Stp.up hst421 rfl)))))))))))))))
             exact At.res (.inl rfl) rfl (.tmp rfl .nil) ⟨rfl, (Stp.ext hs465 rfl rfl)⟩
            ·refine WC.condF' rfl hc464 ?_
             refine WC.skip ?_
             refine At.then ?_
             refine WC.seq ?_
             refine WC.seq ?_
             refine WC.region ?_
             refine WL.y (Y.move rfl) rfl ?_
             refine WL.y (Y.neq_i rfl rfl) rfl ?_
             refine WL.nil ?_
             refine At.then ?_
             rcases cnd h with ⟨hc466, h⟩ | ⟨hc466, h⟩
             ·refine WC.condT' rfl hc466 ?_
              refine WC.seq ?_
              refine WC.region ?_
              refine WL.y (Y.move rfl) rfl ?_
              refine WL.y (Y.move rfl) rfl ?_
              have hf467 := hb369.st hst373 rfl
              have hf468 := hf467.st hst421 rfl
              have hf469 := hb371.st hst373 rfl
              have hf470 := hf469.st hst421 rfl
              have hf471 := hf370.mono (imm_st hst373 rfl rfl)
              have hf472 := hf471.mono (imm_st hst421 rfl rfl)
              have hf473 := hf340.st hst368 rfl
              have hf474 := hf473.st hst373 rfl
              have hf475 := hf474.st hst421 rfl
              have hf476 := hf352.st hst368 rfl
              have hf477 := hf476.st hst373 rfl
              have hf478 := hf477.st hst421 rfl
              obtain ⟨⟨r479, r480, r481, r482⟩, hp483, h⟩ := bnd h
              refine WL.call (vals := [Value.pointer (some ⟨p59, 0, none⟩), Value.pointer (some ⟨p120, 0, none⟩)]) kok13 rfl rfl (c_xor_Row_Get (A := imm O419) (a0 := r355) (a1 := r356) hf468.blk hf472 hf470.blk hf475.at_ (CAt.inI hf475) hf478.at_ (CAt.inI hf478) (ne_blk hf468.lab hf470.lab rfl) (fun k hk => ⟨imm_ne hf468.lab rfl k hk, imm_ne hf470.lab rfl k hk⟩) hp483) ?_
              rintro vr490 wd489 ⟨z484, rfl, hm488, f485, f486, f487⟩
              obtain ⟨O491, hold492, hnew493, hst494⟩ := adopt O419 (fun k => 1) [13, 11] hm488 (memOr (memB hf468.lab rfl) (memB hf470.lab rfl))
              have hb495 : Blk 13 O491 wd489 p59 62 [vi r481.n, vu r481.last, vi r481.win.ahead, vi r481.win.size] := Blk.adopt hf468 hold492 f485
              have hf496 : Sl Rep.b wd489 (imm O491) z484 r482.b := Sl.adoptI (O := O419) f486 (fun _ hk => hk) (fun _ _ => Nat.le_refl _) hold492 hnew493
              have hb497 : Blk 11 O491 wd489 p120 58 [z484, vi r482.n, vi r482.at_] := Blk.adopt hf470 hold492 f487
              refine WL.y (Y.move rfl) rfl ?_
              refine WL.y (Y.extract rfl rfl) rfl ?_
              refine WL.y (Y.extract rfl rfl) rfl ?_
              refine WL.y (Y.assign rfl) rfl ?_
              refine WL.nil ?_
              refine At.then ?_
              refine WC.seq ?_
              refine WC.seq ?_
              refine WC.drawH [] [0, 1, 2, 3, 4, 5, 6, 7, 8, 9, 10, 11] O491 12 fmix rfl (by kernel_rfl) ?_
              intro wd498 hst499
              refine WD.y 0 rfl (by kernel_rfl) (fun _ _ _ => Y.move rfl) rfl ?_
              refine WD.y 1 rfl (by kernel_rfl) (fun _ _ _ => Y.fieldAddr fo43_3 rfl) rfl ?_
              refine WD.y 2 rfl (by kernel_rfl) (fun wd507 O506 hst508 => have hf509 := hb319.st hst368 rfl; have hf510 := hf509.st hst373 rfl; have hf511 := hf510.st hst421 rfl; have hf512 := hf511.st hst494 rfl; have hf513 := hf512.st hst499 rfl; have hf514 := hf513.st hst508 rfl; Y.loadSc ty29 rfl rfl (hf514.cell 5 _ rfl)) rfl ?_
              refine WD.y 3 rfl (by kernel_rfl) (fun _ _ _ => Y.neq_i rfl rfl) rfl ?_
              refine WD.y 4 rfl (by kernel_rfl) (fun _ _ _ => Y.move rfl) rfl ?_
              obtain ⟨p525, h, hk526⟩ := bnd h
              refine WD.join (σ := (Bool × Own)) (f' := 0) [11, 10, 6, 9, 8, 7, 5, 4, 3, 2, 1, 0] (fun x O' w' => x.1 = p525 ∧ Stp [] O491 wd498 x.2 w' ∧ x.2 = O') (fun x => [(7, vr51), (10, Value.pointer (some ⟨p83, 0, none⟩)), (12, vi at156), (100, Value.bool x.1)]) (fun hJ527 => ?_) ?_
              ·rcases cnd h with ⟨hE528, h⟩ | ⟨hE528, h⟩
               ·refine WD.ren 93 rfl (congrArg Value.bool hE528) ?_
                refine WD.gS 5 rfl (by kernel_rfl) rfl rfl rfl rfl ?_
                refine WD.gS 7 rfl (by kernel_rfl) rfl rfl rfl rfl ?_
                refine WD.gS 8 rfl (by kernel_rfl) rfl rfl rfl rfl ?_
                refine WD.gS 9 rfl (by kernel_rfl) rfl rfl rfl rfl ?_
                refine WD.heavy 6 rfl (by kernel_rfl) ?_
                refine WL.gS rfl rfl rfl rfl ?_
                refine WL.nil ?_
                refine At.dq (Stp.refl _ _ _) ?_
                refine WD.gS 10 rfl (by kernel_rfl) rfl rfl rfl rfl ?_
                refine WD.y 11 rfl (by kernel_rfl) (fun _ _ _ => Y.pick (b := true) rfl rfl) rfl ?_
                refine WD.ren 93 rfl (congrArg Value.bool hE528.symm) ?_
                exact hJ527 (true, O491) _ _ _ ⟨some1 h, (Stp.refl _ _ _), rfl⟩ (.cons rfl (.cons rfl (.cons rfl (.cons rfl .nil))))
               ·refine WD.ren 93 rfl (congrArg Value.bool hE528) ?_
                refine WD.gT 5 rfl (by kernel_rfl) rfl rfl (fun _ _ _ => Y.move rfl) rfl ?_
                refine WD.gT 7 rfl (by kernel_rfl) rfl rfl (fun _ _ _ => Y.fieldAddr fo41_0 rfl) rfl ?_
                refine WD.gT 8 rfl (by kernel_rfl) rfl rfl (fun wd539 O538 hst540 => have hf541 := hb150.st hst229 rfl; have hf542 := hf541.st hst261 rfl; have hf543 := hf542.st hst318 rfl; have hf544 := hf543.st hst368 rfl; have hf545 := hf544.st hst373 rfl; have hf546 := hf545.st hst421 rfl; have hf547 := hf546.st hst494 rfl; have hf548 := hf547.st hst499 rfl; have hf549 := hf548.st hst540 rfl; Y.loadSc ty22 rfl rfl (hf549.cell 0 _ rfl)) rfl ?_
                refine WD.gT 9 rfl (by kernel_rfl) rfl rfl (fun wd551 O550 hst552 => have hf553 := hf153.mono (frs_st hst229 rfl); have hf554 := hf553.mono (frs_st hst261 rfl); have hf555 := hf554.mono (frs_st hst318 rfl); have hf556 := hf555.mono (frs_st hst368 rfl); have hf557 := hf556.mono (frs_st hst373 rfl); have hf558 := hf557.mono (frs_st hst421 rfl); have hf559 := hf558.mono (frs_st hst494 rfl); have hf560 := hf559.mono (frs_st hst499 rfl); have hf561 := hf560.mono (frs_st hst552 rfl); Y.len ty22 rfl hf561) rfl ?_
                refine WD.heavy 6 rfl (by kernel_rfl) ?_
                refine WL.ung rfl rfl ?_
                have hf562 := hb495.st hst499 rfl
                obtain ⟨r563, hp564, h⟩ := bnd h
                refine WL.call (vals := [Value.pointer (some ⟨p59, 0, none⟩)]) kok15 rfl rfl (c_xor_Row_Len (A := fun _ => True) (a0 := r481) hf562.blk trivial hp564) ?_
                rintro vr567 wd566 ⟨rfl, hm565⟩
                obtain ⟨O568, hold569, hnew570, hst571⟩ := adoptE O491 (fun k => 1) hm565
                refine WL.nil ?_
                refine At.dq (Stp.up hst571 rfl) ?_
                refine WD.gT 10 rfl (by kernel_rfl) rfl rfl (fun _ _ _ => Y.neq_i rfl rfl) rfl ?_
                refine WD.y 11 rfl (by kernel_rfl) (fun _ _ _ => Y.pick (b := false) rfl rfl) rfl ?_
                refine WD.ren 93 rfl (congrArg Value.bool hE528.symm) ?_
                exact hJ527 ((!decide (r563 = (c151.length : Int))), O568) _ _ _ ⟨some1 h, (Stp.up hst571 rfl), rfl⟩ (.cons rfl (.cons rfl (.cons rfl (.cons rfl .nil))))
              ·rintro ⟨x521, O522⟩ _ wd523 ⟨rfl, hst524, rfl⟩
               replace h := hk526
               try dsimp only at h hst524
               refine (show WD _ _ _ _ _ _ _ _ [(7, vr51), (10, Value.pointer (some ⟨p83, 0, none⟩)), (12, vi at156), (100, Value.bool x521)] _ _ from ?_)
               refine WD.done_ (by kernel_rfl) ?_
               refine At.then ?_
               rcases cnd h with ⟨hc578, h⟩ | ⟨hc578, h⟩
               ·refine WC.condT' rfl hc578 ?_
                refine WC.seq ?_
                refine WC.region ?_
                refine WL.y (Y.assign rfl) rfl ?_
                refine WL.nil ?_
                refine At.then ?_
                refine WC.ret ?_
                refine At.thenR ?_
                refine At.thenR ?_
                refine At.inBlockR ?_
                refine At.thenR ?_
                refine At.loopR ?_
                have h := outr1 h hn226 hk175
                refine At.joinBR ?_
                refine At.inBlockR ?_
                have h := outs1 h hk118
                refine At.joinR ?_
                refine At.thenR ?_
                obtain rfl := some1 h
                have hs579 : Stp [11, 12, 13, 14, 15, 16, 17, 18, 19, 1001, 1002] (Lg.O0 A) w O522 wd523 := (Stp.trans (Stp.up hst22 rfl) (Stp.trans (Stp.up hst41 rfl) (Stp.trans (Stp.up hst55 rfl) (Stp.trans (Stp.up hst67 rfl) (Stp.trans (Stp.up hst79 rfl) (Stp.trans (Stp.up hst94 rfl) (Stp.trans (Stp.up hst101 rfl) (Stp.trans (Stp.up hst103 rfl) (Stp.trans (Stp.up hst160 rfl) (Stp.trans (Stp.up hst229 rfl) (Stp.trans (Stp.up hst261 rfl) (Stp.trans (Stp.up hst318 rfl) (Stp.trans (Stp.up hst368 rfl) (Stp.trans (Stp.up hst373 rfl) (Stp.trans (Stp.up hst421 rfl) (Stp.trans (Stp.up hst494 rfl) (Stp.trans (Stp.up hst499 rfl) (Stp.up hst524 rfl))))))))))))))))))
                exact At.res (.inl rfl) rfl (.tmp rfl .nil) ⟨rfl, (Stp.ext hs579 rfl rfl)⟩
               ·refine WC.condF' rfl hc578 ?_
                refine WC.skip ?_
                refine At.then ?_
                refine WC.exit ?_
                refine At.thenX ?_
                refine At.inBlockMiss rfl ?_
                refine At.thenX ?_
                refine At.loopX ?_
                have hf580 := hf148.st hst229 rfl rfl rfl
                have hf581 := hf580.st hst261 rfl rfl rfl
                have hf582 := hf581.st hst318 rfl rfl rfl
                have hf583 := hf582.st hst368 rfl rfl rfl
                have hf584 := hf583.st hst373 rfl rfl rfl
                have hf585 := hf584.st hst421 rfl rfl rfl
                have hf586 := hf585.st hst494 rfl rfl rfl
                have hf587 := hf586.st hst499 rfl rfl rfl
                have hf588 := hf587.st hst524 rfl rfl rfl
                obtain ⟨O589, hst590, ho591⟩ := OwnSl.rlb 1003 rfl hf588
                have hf592 := hf244.mono (frs_st hst261 rfl)
                have hf593 := hf592.mono (frs_st hst318 rfl)
                have hf594 := hf593.mono (frs_st hst368 rfl)
                have hf595 := hf594.mono (frs_st hst373 rfl)
                have hf596 := hf595.mono (frs_st hst421 rfl)
                have hf597 := hf596.mono (frs_st hst494 rfl)
                have hf598 := hf597.mono (frs_st hst499 rfl)
                have hf599 := hf598.mono (frs_st hst524 rfl)
                have hf600 := hf599.mono (frs_st hst590 rfl)
                have hf601 := hb145.st hst229 rfl
                have hf602 := hf601.st hst261 rfl
                have hf603 := hf602.st hst318 rfl
                have hf604 := hf603.st hst368 rfl
                have hf605 := hf604.st hst373 rfl
                have hf606 := hf605.st hst421 rfl
                have hf607 := hf606.st hst494 rfl
                have hf608 := hf607.st hst499 rfl
                have hf609 := hf608.st hst524 rfl
                have hf610 := hf609.st hst590 rfl
                exact At.hitB (σ := (List Int × List UInt8 × Int × Int × Own × Value)) (l132, c146, c149, at156, O589, v147) ⟨brk1 h hn226, (Stp.trans (Stp.up hst160 rfl) (Stp.trans (Stp.up hst229 rfl) (Stp.trans (Stp.up hst261 rfl) (Stp.trans (Stp.up hst318 rfl) (Stp.trans (Stp.up hst368 rfl) (Stp.trans (Stp.up hst373 rfl) (Stp.trans (Stp.up hst421 rfl) (Stp.trans (Stp.up hst494 rfl) (Stp.trans (Stp.up hst499 rfl) (Stp.trans (Stp.up hst524 rfl) (Stp.up hst590 rfl))))))))))), hf600, ho591, hf610⟩ (.cons rfl (.cons rfl (.cons rfl .nil)))
             ·refine WC.condF' rfl hc466 ?_
              refine WC.skip ?_
              refine At.then ?_
              refine WC.seq ?_
              refine WC.region ?_
              refine WL.y (Y.fieldAddr fo43_2 rfl) rfl ?_
              have hf611 := hb319.st hst368 rfl
              have hf612 := hf611.st hst373 rfl
              have hf613 := hf612.st hst421 rfl
              refine WL.y (Y.loadAg ty41 rfl rfl (hf613.cells 2 [(Value.slice p313 m314 c315), vi x256, vi x257] rfl) rfl) rfl ?_
              have hf614 := hb150.st hst229 rfl
              have hf615 := hf614.st hst261 rfl
              have hf616 := hf615.st hst318 rfl
              have hf617 := hf616.st hst368 rfl
              have hf618 := hf617.st hst373 rfl
              have hf619 := hf618.st hst421 rfl
              refine WL.store (v := Value.agg (List.toArray [(Value.slice p313 m314 c315), vi x256, vi x257])) (cells' := [(Value.slice p313 m314 c315), vi x256, vi x257]) ty41 rfl rfl hf619 rfl (Nat.le_of_ble_eq_true rfl) rfl rfl ?_
              intro wd620 hst621 hb622
              refine WL.nil ?_
              refine At.then ?_
              refine WC.seq ?_
              refine WC.region ?_
              refine WL.y (Y.move rfl) rfl ?_
              refine WL.y (Y.fieldAddr fo43_1 rfl) rfl ?_
              have hf623 := hf613.st hst621 rfl
              refine WL.y (Y.loadSc ty3 rfl rfl (hf623.cell 1 _ rfl)) rfl ?_
              refine WL.y (Y.add_i rfl rfl) rfl ?_
              obtain ⟨at624, hat624, h⟩ := lt1 h
              refine WL.yE (Y.assign rfl) (congrArg vi hat624.symm) rfl ?_
              refine WL.nil ?_
              refine At.then ?_
              refine WC.region ?_
              refine WL.y (Y.move rfl) rfl ?_
              refine WL.y (Y.move rfl) rfl ?_
              refine WL.y (Y.move rfl) rfl ?_
              have hf625 := hf148.st hst229 rfl rfl rfl
              have hf626 := hf625.st hst261 rfl rfl rfl
              have hf627 := hf626.st hst318 rfl rfl rfl
              have hf628 := hf627.st hst368 rfl rfl rfl
              have hf629 := hf628.st hst373 rfl rfl rfl
              have hf630 := hf629.st hst421 rfl rfl rfl
              have hf631 := hf630.st hst621 rfl rfl rfl
              have hf632 := hb140.st hst229 rfl
              have hf633 := hf632.st hst261 rfl
              have hf634 := hf633.st hst318 rfl
              have hf635 := hf634.st hst368 rfl
              have hf636 := hf635.st hst373 rfl
              have hf637 := hf636.st hst421 rfl
              have hf638 := hf637.st hst621 rfl
              have hf639 := hb145.st hst229 rfl
              have hf640 := hf639.st hst261 rfl
              have hf641 := hf640.st hst318 rfl
              have hf642 := hf641.st hst368 rfl
              have hf643 := hf642.st hst373 rfl
              have hf644 := hf643.st hst421 rfl
              have hf645 := hf644.st hst621 rfl
              have hf646 := hf340.st hst368 rfl
              have hf647 := hf646.st hst373 rfl
              have hf648 := hf647.st hst421 rfl
              have hf649 := hf648.st hst621 rfl
              have hf650 := hf352.st hst368 rfl
              have hf651 := hf650.st hst373 rfl
              have hf652 := hf651.st hst421 rfl
              have hf653 := hf652.st hst621 rfl
              obtain ⟨⟨r654, r655⟩, hp656, h⟩ := bnd h
              refine WL.call (vals := [Value.pointer (some ⟨p71, 0, none⟩), Value.pointer (some ⟨p83, 0, none⟩), vu r353]) kok16 rfl rfl (c_xor_Row_Put (A := out [14, 15, 1002] O419) (a0 := (xor_Row.mk c141 c142 (xor_window.mk c143 c144))) (a1 := (bitio_Writer.mk c146 c149)) hf638.blk hf631.row hf645.blk hf649.at_ (CAt.inO hf649 rfl rfl) hf653.at_ (CAt.inO hf653 rfl rfl) (ne_blk hf638.lab hf645.lab rfl) (ne_lab hf631 hf638.lab rfl) (ne_lab hf631 hf645.lab rfl) (fun k hk => ⟨out_ne hf638.lab rfl k hk, out_ne hf645.lab rfl k hk, out_neV (w := wd620) hf631.labs rfl k hk⟩) hp656) ?_
              rintro vr663 wd662 ⟨z657, rfl, hm661, f658, f659, f660⟩
              obtain ⟨O664, hold665, hnew666, hst667⟩ := adopt O419 (fun k => if Value.ownBlock z657 = some k then 1002 else 1) [14, 15, 1002] hm661 (memOr (memB hf638.lab rfl) (memOr (memB hf645.lab rfl) (memV hf631.labs rfl)))
              have hb668 : Blk 14 O664 wd662 p71 62 [vi r654.n, vu r654.last, vi r654.win.ahead, vi r654.win.size] := Blk.adopt hf638 hold665 f658
              have ho669 : OwnSl 1002 Rep.b 5 O664 wd662 z657 r655.b := RowG.adopt Flat.b hf631.labs f659 hold665 hnew666 (fun k hk => if_pos hk)
              have hb670 : Blk 15 O664 wd662 p83 64 [z657, vi r655.n] := Blk.adopt hf645 hold665 f660
              refine WL.nil ?_
              refine At.inBlock ?_
              refine At.then ?_
              refine WC.region ?_
              refine WL.y (Y.move rfl) rfl ?_
              refine WL.y (Y.add_i rfl rfl) rfl ?_
              obtain ⟨i671, hi671, h⟩ := lt1 h
              refine WL.yE (Y.assign rfl) (congrArg vi hi671.symm) rfl ?_
              refine WL.nil ?_
              have hf672 := hf370.mono (imm_st hst373 rfl rfl)
              have hf673 := hf672.mono (imm_st hst421 rfl rfl)
              have hf674 := hf673.mono (imm_st hst621 rfl rfl)
              have hf675 := hf674.mono (imm_st hst667 rfl rfl)
              have hf676 := hb371.st hst373 rfl
              have hf677 := hf676.st hst421 rfl
              have hf678 := hf677.st hst621 rfl
              have hf679 := hf678.st hst667 rfl
              have hf680 := hf244.mono (frs_st hst261 rfl)
              have hf681 := hf680.mono (frs_st hst318 rfl)
              have hf682 := hf681.mono (frs_st hst368 rfl)
              have hf683 := hf682.mono (frs_st hst373 rfl)
              have hf684 := hf683.mono (frs_st hst421 rfl)
              have hf685 := hf684.mono (frs_st hst621 rfl)
              have hf686 := hf685.mono (frs_st hst667 rfl)
              have hf687 := hb369.st hst373 rfl
              have hf688 := hf687.st hst421 rfl
              have hf689 := hf688.st hst621 rfl
              have hf690 := hf689.st hst667 rfl
              have hf691 := hf255.mono (frs_st hst318 rfl)
              have hf692 := hf691.mono (frs_st hst368 rfl)
              have hf693 := hf692.mono (frs_st hst373 rfl)
              have hf694 := hf693.mono (frs_st hst421 rfl)
              have hf695 := hf694.mono (frs_st hst621 rfl)
              have hf696 := hf695.mono (frs_st hst667 rfl)
              have hf697 := hb622.st hst667 rfl
              exact At.round (r356.b, r356.n, r356.at_, l132, r355.n, r355.last, r355.win.ahead, r355.win.size, r654.n, r654.last, r654.win.ahead, r654.win.size, r655.b, r655.n, x253, x256, x257, at624, i671, O664, z358, z657, (Value.slice p313 m314 c315)) j224 (Nat.lt_succ_self _) ⟨next1 h hn226, (Stp.trans (Stp.up hst160 rfl) (Stp.trans (Stp.up hst229 rfl) (Stp.trans (Stp.up hst261 rfl) (Stp.trans (Stp.up hst318 rfl) (Stp.trans (Stp.up hst368 rfl) (Stp.trans (Stp.up hst373 rfl) (Stp.trans (Stp.up hst421 rfl) (Stp.trans (Stp.up hst621 rfl) (Stp.up hst667 rfl))))))))), hf675, hf679, hf686, hf690, hb668, ho669, hb670, hf696, hf697⟩ (.cons rfl (.cons rfl (.cons rfl (.cons rfl (.cons rfl (.cons rfl (.cons rfl (.cons rfl (.cons rfl .nil)))))))))
        ·refine WC.condF' rfl hc227 ?_
         refine WC.exit ?_
         refine At.thenX ?_
         refine At.loopX ?_
         obtain ⟨O698, hst699, ho700⟩ := OwnSl.rlb 1003 rfl hf148
         have hf701 := hf134.mono (frs_st hst699 rfl)
         have hf702 := hb145.st hst699 rfl
         exact At.hitB (σ := (List Int × List UInt8 × Int × Int × Own × Value)) (l132, c146, c149, at156, O698, v147) ⟨brk1 h hn226, (Stp.trans (Stp.up hst160 rfl) (Stp.up hst699 rfl)), hf701, ho700, hf702⟩ (.cons rfl (.cons rfl (.cons rfl .nil)))
       ·rintro ⟨l161, c165, c168, at169, O170, v166⟩ wd171 ⟨rfl, hst172, hf163, hf167, hb164⟩
        replace h := flowK_go hk175
        try dsimp only at h hst172 hf163 hf167 hb164
        refine (show At _ _ _ [(7, vr51), (10, Value.pointer (some ⟨p83, 0, none⟩)), (12, vi at169)] _ from ?_)
        refine At.inBlockHit ?_
        obtain ⟨O703, hst704, ho705⟩ := OwnSl.rlb 1005 rfl hf167
        have hf706 := hf163.mono (frs_st hst704 rfl)
        have hf707 := hb164.st hst704 rfl
        exact At.join (σ := (List Int × List UInt8 × Int × Int × Own × Value)) (l161, c165, c168, at169, O703, v166) ⟨go2 h, (Stp.trans (Stp.up hst172 rfl) (Stp.up hst704 rfl)), hf706, ho705, hf707⟩ (.cons rfl (.cons rfl (.cons rfl .nil)))
      ·rintro ⟨l105, c109, c112, at113, O114, v110⟩ wd115 ⟨rfl, hst116, hf107, hf111, hb108⟩
       replace h := flowK_go hk118
       try dsimp only at h hst116 hf107 hf111 hb108
       refine (show At _ _ _ [(7, vr51), (10, Value.pointer (some ⟨p83, 0, none⟩)), (12, vi at113)] _ from ?_)
       refine At.then ?_
       refine WC.seq ?_
       refine WC.drawH [] [0, 1, 2, 3, 4, 5, 6, 7, 8, 9, 10, 11, 12, 13, 14, 15] O114 16 fmix rfl (by kernel_rfl) ?_
       intro wd708 hst709
       refine WD.y 0 rfl (by kernel_rfl) (fun _ _ _ => Y.move rfl) rfl ?_
       refine WD.y 2 rfl (by kernel_rfl) (fun _ _ _ => Y.move rfl) rfl ?_
       refine WD.heavy 1 rfl (by kernel_rfl) ?_
       have hf716 := hb108.st hst709 rfl
       have hf717 := hf111.st hst709 rfl rfl rfl
       obtain ⟨r718, hp719, h⟩ := bnd h
       refine WL.call (vals := [Value.pointer (some ⟨p83, 0, none⟩)]) kok17 rfl rfl (c_bitio_Writer_Len (A := fun _ => True) (a0 := (bitio_Writer.mk c109 c112)) (hf717.src.sl) hf716.blk trivial hp719) ?_
       rintro vr722 wd721 ⟨rfl, hm720⟩
       obtain ⟨O723, hold724, hnew725, hst726⟩ := adoptE O114 (fun k => 1) hm720
       refine WL.nil ?_
       refine At.dq (Stp.up hst726 rfl) ?_
       refine WD.y 3 rfl (by kernel_rfl) (fun _ _ _ => Y.eql_i rfl rfl) rfl ?_
       refine WD.y 4 rfl (by kernel_rfl) (fun _ _ _ => Y.move rfl) rfl ?_
       obtain ⟨p737, h, hk738⟩ := bnd h
       refine WD.join (σ := (Bool × Own)) (f' := 1) [14, 13, 12, 11, 7, 6, 10, 9, 8, 5, 4, 3, 1, 2, 0] (fun x O' w' => x.1 = p737 ∧ Stp [] O723 wd721 x.2 w' ∧ x.2 = O') (fun x => [(125, Value.bool x.1)]) (fun hJ739 => ?_) ?_
       ·rcases cnd h with ⟨hE740, h⟩ | ⟨hE740, h⟩
        ·refine WD.ren 115 rfl (congrArg Value.bool hE740) ?_
         refine WD.gT 5 rfl (by kernel_rfl) rfl rfl (fun _ _ _ => Y.move rfl) rfl ?_
         refine WD.gT 8 rfl (by kernel_rfl) rfl rfl (fun _ _ _ => Y.move rfl) rfl ?_
         refine WD.gT 9 rfl (by kernel_rfl) rfl rfl (fun _ _ _ => Y.move rfl) rfl ?_
         obtain ⟨t750, ht750, h⟩ := bnd h
         have hf753 := hf107.mono (frs_st hst709 rfl)
         have hf754 := hf753.mono (frs_st hst726 rfl)
         obtain ⟨v751, hY755, hf752⟩ := Sl.slice (ρ := [(119, vr51), (120, vi at113)]) (x := (.tmp 119)) (lo := none) (hi := (some (.tmp 120))) ty32 ty3 rfl rfl rfl hf754 ht750
         refine WD.gT 10 rfl (by kernel_rfl) rfl rfl (fun _ _ _ => Y.sub (.cons rfl (.cons rfl .nil)) (hY755 _ _)) rfl ?_
         refine WD.heavy 6 rfl (by kernel_rfl) ?_
         refine WL.ung rfl rfl ?_
         have hf759 := hf716.st hst726 rfl
         have hf760 := hf717.st hst726 rfl rfl rfl
         obtain ⟨r761, hp762, h⟩ := bnd h
         refine WL.call (vals := [Value.pointer (some ⟨p83, 0, none⟩)]) kok18 rfl rfl (c_bitio_Writer_Bytes (A := fun _ => True) (a0 := (bitio_Writer.mk c109 c112)) (hf760.src.sl) hf759.blk trivial hp762) ?_
         rintro vr767 wd766 ⟨_, rfl, hm765, f764⟩
         obtain ⟨O768, hold769, hnew770, hst771⟩ := adoptE O723 (fun k => if Value.ownBlock vr767 = some k then 20 else 1) hm765
         have hf772 : OwnSl 20 Rep.b 5 O768 wd766 vr767 r761 := RowF.adopt 20 Flat.b f764 hnew770 (fun k hk => if_pos hk)
         refine WL.nil ?_
         refine At.dq (Stp.up hst771 rfl) ?_
         refine WD.gT 7 rfl (by kernel_rfl) rfl rfl (fun wd774 O773 hst775 => have hf776 := hf772.st hst775 rfl rfl rfl; Y.b2s ty27 ty5 ty9 rfl hf776.src.sl) rfl ?_
         refine WD.heavy 11 rfl (by kernel_rfl) ?_
         refine WL.ung rfl rfl ?_
         have hf777 := hf752.mono (frs_st hst771 rfl)
         obtain ⟨r778, hp779, h⟩ := bnd h
         refine WL.call (vals := [v751]) kok19 rfl rfl (c_ref01_Bytes (A := fun _ => True) (Sl.all hf777) hp779) ?_
         rintro vr784 wd783 ⟨_, rfl, hm782, f781⟩
         obtain ⟨O785, hold786, hnew787, hst788⟩ := adoptE O768 (fun k => if Value.ownBlock vr784 = some k then 21 else 1) hm782
         have hf789 : OwnSl 21 Rep.b 5 O785 wd783 vr784 r778 := RowF.adopt 21 Flat.b f781 hnew787 (fun k hk => if_pos hk)
         refine WL.nil ?_
         refine At.dq (Stp.up hst788 rfl) ?_
         refine WD.gT 12 rfl (by kernel_rfl) rfl rfl (fun wd791 O790 hst792 => have hf793 := hf789.st hst792 rfl rfl rfl; Y.b2s ty27 ty5 ty9 rfl hf793.src.sl) rfl ?_
         refine WD.gT 13 rfl (by kernel_rfl) rfl rfl (fun _ _ _ => Y.eql_s rfl rfl) rfl ?_
         refine WD.y 14 rfl (by kernel_rfl) (fun _ _ _ => Y.pick (b := true) rfl rfl) rfl ?_
         refine WD.ren 115 rfl (congrArg Value.bool hE740.symm) ?_
         exact hJ739 (decide (r761 = r778), O785) _ _ _ ⟨some1 h, (Stp.trans (Stp.up hst771 rfl) (Stp.up hst788 rfl)), rfl⟩ (.cons rfl .nil)
        ·refine WD.ren 115 rfl (congrArg Value.bool hE740) ?_
         refine WD.gS 5 rfl (by kernel_rfl) rfl rfl rfl rfl ?_
         refine WD.gS 8 rfl (by kernel_rfl) rfl rfl rfl rfl ?_
         refine WD.gS 9 rfl (by kernel_rfl) rfl rfl rfl rfl ?_
         refine WD.gS 10 rfl (by kernel_rfl) rfl rfl rfl rfl ?_
         refine WD.heavy 6 rfl (by kernel_rfl) ?_
         refine WL.gS rfl rfl rfl rfl ?_
         refine WL.nil ?_
         refine At.dq (Stp.refl _ _ _) ?_
         refine WD.gS 7 rfl (by kernel_rfl) rfl rfl rfl rfl ?_
         refine WD.heavy 11 rfl (by kernel_rfl) ?_
         refine WL.gS rfl rfl rfl rfl ?_
         refine WL.nil ?_
         refine At.dq (Stp.refl _ _ _) ?_
         refine WD.gS 12 rfl (by kernel_rfl) rfl rfl rfl rfl ?_
         refine WD.gS 13 rfl (by kernel_rfl) rfl rfl rfl rfl ?_
         refine WD.y 14 rfl (by kernel_rfl) (fun _ _ _ => Y.pick (b := false) rfl rfl) rfl ?_
         refine WD.ren 115 rfl (congrArg Value.bool hE740.symm) ?_
         exact hJ739 (false, O723) _ _ _ ⟨some1 h, (Stp.refl _ _ _), rfl⟩ (.cons rfl .nil)
       ·rintro ⟨x733, O734⟩ _ wd735 ⟨rfl, hst736, rfl⟩
        replace h := hk738
        try dsimp only at h hst736
        refine (show WD _ _ _ _ _ _ _ _ [(125, Value.bool x733)] _ _ from ?_)
        refine WD.y 15 rfl (by kernel_rfl) (fun _ _ _ => Y.assign rfl) rfl ?_
        refine WD.done_ (by kernel_rfl) ?_
        refine At.then ?_
        refine WC.ret ?_
        obtain rfl := some1 h
        have hs806 : Stp [11, 12, 13, 14, 15, 16, 17, 18, 19, 1001, 1002, 1003] (Lg.O0 A) w O734 wd735 := (Stp.trans (Stp.up hst22 rfl) (Stp.trans (Stp.up hst41 rfl) (Stp.trans (Stp.up hst55 rfl) (Stp.trans (Stp.up hst67 rfl) (Stp.trans (Stp.up hst79 rfl) (Stp.trans (Stp.up hst94 rfl) (Stp.trans (Stp.up hst101 rfl) (Stp.trans (Stp.up hst103 rfl) (Stp.trans (Stp.up hst116 rfl) (Stp.trans (Stp.up hst709 rfl) (Stp.trans (Stp.up hst726 rfl) (Stp.up hst736 rfl))))))))))))
        exact At.res (.inl rfl) rfl (.tmp rfl .nil) ⟨rfl, (Stp.ext hs806 rfl rfl)⟩

end Go.Lg
