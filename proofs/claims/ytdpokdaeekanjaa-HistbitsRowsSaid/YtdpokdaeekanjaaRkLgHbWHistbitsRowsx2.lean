/- The walks of HistbitsRows and of what it calls, printed by gen.py. -/
import Derived.Test.YtdpokdaeekanjaaRkLgHbWHistbitsRowsx1
set_option linter.unusedVariables false
namespace Go.Lg
open Go Go.Proofs
set_option maxRecDepth 100000
set_option maxHeartbeats 4000000
theorem c_histbits_Row_Get {A : Nat → Prop} {v0_4 : Value} {v0_6 : Value} {a0 : histbits_Row} {b0 : Nat} {v1_0 : Value} {a1 : bitio_Reader} {b1 : Nat} {w : World} (hs0_4 : Row Rep.u 22 w v0_4 a0.last.Pos.Counts) (hs0_6 : Row Rep.u 22 w v0_6 a0.last.Neg.Counts) (hb0 : w.heap[b0]? = some (.cells (List.toArray [vi a0.n, vi a0.last.Scale, vu a0.last.Zero, vi a0.last.Pos.Offset, v0_4, vi a0.last.Neg.Offset, v0_6]) 88 (0, 0))) (hs1_0 : Sl Rep.b w A v1_0 a1.b) (hb1 : w.heap[b1]? = some (.cells (List.toArray [v1_0, vi a1.n, vi a1.at_]) 107 (0, 0))) (hne0_1 : Value.ownBlock v0_4 ≠ some b0) (hne0_2 : Value.ownBlock v0_6 ≠ some b0) (hne0_3 : b0 ≠ b1) (hne1_2 : ∀ k, Value.ownBlock v0_4 = some k → Value.ownBlock v0_6 ≠ some k) (hne1_3 : Value.ownBlock v0_4 ≠ some b1) (hne2_3 : Value.ownBlock v0_6 ≠ some b1) (hA : ∀ k, A k → k ≠ b0 ∧ Value.ownBlock v0_4 ≠ some k ∧ Value.ownBlock v0_6 ≠ some k ∧ k ≠ b1) {r0 : api_Hist} {r1 : Int} {q0 : histbits_Row} {q1 : bitio_Reader} (h : histbits_Row_Get a0 a1 = some (r0, r1, q0, q1)) : Rets Try.prog 50 [Value.pointer (some ⟨b0, 0, none⟩), Value.pointer (some ⟨b1, 0, none⟩)] w (fun v w' => ∃ (u0_3 : Value) (u0_5 : Value) (z0_4 : Value) (z0_6 : Value) (z1_0 : Value), v = Value.tuple (List.toArray [Value.agg (List.toArray [vi r0.Scale, vu r0.Zero, vi r0.Pos.Offset, u0_3, vi r0.Neg.Offset, u0_5]), vi r1]) ∧ Mod (fun k => k = b0 ∨ Value.ownBlock v0_4 = some k ∨ Value.ownBlock v0_6 = some k ∨ k = b1) w w' ∧ RowF Rep.u 22 w w' u0_3 r0.Pos.Counts ∧ RowF Rep.u 22 w w' u0_5 r0.Neg.Counts ∧ RowG Rep.u 22 w w' v0_4 z0_4 q0.last.Pos.Counts ∧ RowG Rep.u 22 w w' v0_6 z0_6 q0.last.Neg.Counts ∧ w'.heap[b0]? = some (.cells (List.toArray [vi q0.n, vi q0.last.Scale, vu q0.last.Zero, vi q0.last.Pos.Offset, z0_4, vi q0.last.Neg.Offset, z0_6]) 88 (0, 0)) ∧ Sl Rep.b w' (fun k => (k < w.heap.size ∧ A k) ∨ (w.heap.size ≤ k ∧ Value.ownBlock u0_3 ≠ some k ∧ Value.ownBlock u0_5 ≠ some k ∧ Value.ownBlock z0_4 ≠ some k ∧ Value.ownBlock z0_6 ≠ some k)) z1_0 q1.b ∧ w'.heap[b1]? = some (.cells (List.toArray [z1_0, vi q1.n, vi q1.at_]) 107 (0, 0)) ∧ (∀ k, Value.ownBlock u0_3 = some k → Value.ownBlock u0_5 ≠ some k) ∧ (∀ k, Value.ownBlock u0_3 = some k → Value.ownBlock z0_4 ≠ some k) ∧ (∀ k, Value.ownBlock u0_5 = some k → Value.ownBlock z0_4 ≠ some k) ∧ (∀ k, Value.ownBlock u0_3 = some k → Value.ownBlock z0_6 ≠ some k) ∧ (∀ k, Value.ownBlock u0_5 = some k → Value.ownBlock z0_6 ≠ some k) ∧ (∀ k, Value.ownBlock z0_4 = some k → Value.ownBlock z0_6 ≠ some k)) := by
 unfold histbits_Row_Get at h
 refine Rets.enter Try.func50 rfl rfl ?_
 have ho11 : OwnSl 4 Rep.u 22 (Lg.OB b0 3 (Lg.OV v0_4 4 (Lg.OV v0_6 5 (Lg.OB b1 6 (Lg.O0 A))))) w v0_4 a0.last.Pos.Counts := Row.start Flat.u hs0_4 (fun k hk => ((if_neg (fun (e : k = b0) => hne0_1 (e ▸ hk))).trans (if_pos hk)))
 have ho12 : OwnSl 5 Rep.u 22 (Lg.OB b0 3 (Lg.OV v0_4 4 (Lg.OV v0_6 5 (Lg.OB b1 6 (Lg.O0 A))))) w v0_6 a0.last.Neg.Counts := Row.start Flat.u hs0_6 (fun k hk => ((if_neg (fun (e : k = b0) => hne0_2 (e ▸ hk))).trans ((if_neg (fun (e : Value.ownBlock v0_4 = some k) => hne1_2 k e hk)).trans (if_pos hk))))
 have hb13 : Blk 3 (Lg.OB b0 3 (Lg.OV v0_4 4 (Lg.OV v0_6 5 (Lg.OB b1 6 (Lg.O0 A))))) w b0 88 [vi a0.n, vi a0.last.Scale, vu a0.last.Zero, vi a0.last.Pos.Offset, v0_4, vi a0.last.Neg.Offset, v0_6] := ⟨(if_pos rfl), hb0⟩
 have hf14 : Sl Rep.b w (imm (Lg.OB b0 3 (Lg.OV v0_4 4 (Lg.OV v0_6 5 (Lg.OB b1 6 (Lg.O0 A)))))) v1_0 a1.b := (Sl.OB (Sl.OV (Sl.OV (Sl.OB (Sl.start hs1_0) (fun k hk => (hA k (O0_A k hk)).2.2.2)) (fun k hk => (hA k ((aB O0_A rfl) k hk)).2.2.1)) (fun k hk => (hA k ((aV (aB O0_A rfl) rfl) k hk)).2.1)) (fun k hk => (hA k ((aV (aV (aB O0_A rfl) rfl) rfl) k hk)).1))
 have hb15 : Blk 6 (Lg.OB b0 3 (Lg.OV v0_4 4 (Lg.OV v0_6 5 (Lg.OB b1 6 (Lg.O0 A))))) w b1 107 [v1_0, vi a1.n, vi a1.at_] := ⟨((if_neg (fun (e : b1 = b0) => hne0_3 e.symm)).trans ((if_neg hne1_3).trans ((if_neg hne2_3).trans (if_pos rfl)))), hb1⟩
 refine (show WC _ _ _ _ [(0, Value.pointer (some ⟨b0, 0, none⟩)), (1, Value.pointer (some ⟨b1, 0, none⟩))] _ from ?_)
 refine WC.seq ?_
 refine WC.region ?_
 refine WL.alloc (O := (Lg.OB b0 3 (Lg.OV v0_4 4 (Lg.OV v0_6 5 (Lg.OB b1 6 (Lg.O0 A)))))) 11 [vi 0, vu 0, vi 0, Value.slice none 0 0, vi 0, Value.slice none 0 0] ty27 rfl rfl ?_
 intro p17 O18 wd19 hst20 hb16
 refine WL.y (Y.assign rfl) rfl ?_
 refine WL.nil ?_
 refine At.then ?_
 refine WC.seq ?_
 refine WC.region ?_
 refine WL.y (Y.move rfl) rfl ?_
 refine WL.y (Y.nilCheck rfl) rfl ?_
 have hf21 := hb15.st hst20 rfl
 refine WL.y (Y.loadAg ty107 rfl rfl (hf21.cells 0 [v1_0, vi a1.n, vi a1.at_] rfl) rfl) rfl ?_
 refine WL.alloc (O := O18) 12 [Value.slice none 0 0, vi 0, vi 0] ty107 rfl rfl ?_
 intro p23 O24 wd25 hst26 hb22
 have hf27 := hf14.mono (imm_st hst20 rfl rfl)
 have hf28 := hf27.mono (imm_st hst26 rfl rfl)
 have hh32 := h
 obtain ⟨p29, m30, c31, rfl⟩ := hf28.shape
 have h := hh32
 refine WL.store (v := Value.agg (List.toArray [(Value.slice p29 m30 c31), vi a1.n, vi a1.at_])) (cells' := [(Value.slice p29 m30 c31), vi a1.n, vi a1.at_]) ty107 rfl rfl hb22 rfl (Nat.le_of_ble_eq_true rfl) rfl rfl ?_
 intro wd33 hst34 hb35
 refine WL.nil ?_
 refine At.then ?_
 refine WC.seq ?_
 refine WC.region ?_
 refine WL.y (Y.build (vals := [(0, Value.pointer (some ⟨p23, 0, none⟩))]) (cells := [Value.pointer (some ⟨p23, 0, none⟩), vi 0]) (Fits.evalp rfl) (by kernel_rfl)) rfl ?_
 refine WL.box (O := O24) 13 [Value.pointer (some ⟨p23, 0, none⟩), vi 0] rfl rfl rfl ?_
 intro p37 O38 wd39 hst40 hb36
 refine WL.alloc (O := O38) 14 [Value.pointer none] ty115 rfl rfl ?_
 intro p42 O43 wd44 hst45 hb41
 refine WL.store (v := Value.pointer (some ⟨p37, 0, none⟩)) (cells' := [Value.pointer (some ⟨p37, 0, none⟩)]) ty115 rfl rfl hb41 rfl (Nat.le_of_ble_eq_true rfl) rfl rfl ?_
 intro wd46 hst47 hb48
 refine WL.nil ?_
 refine At.then ?_
 refine WC.seq ?_
 refine WC.region ?_
 refine WL.alloc (O := O43) 15 [vi 0, vu 0, vi 0, Value.slice none 0 0, vi 0, Value.slice none 0 0] ty27 rfl rfl ?_
 intro p50 O51 wd52 hst53 hb49
 refine WL.nil ?_
 refine At.then ?_
 refine WC.seq ?_
 obtain ⟨p76, h, hk77⟩ := flow1 h
 refine WC.join (σ := (List UInt8 × Int × Int × Int × Int × UInt64 × Int × List UInt64 × Int × List UInt64 × Own × Value × Value × Value)) (fun x w' => p76 = .go (x.1, x.2.1, x.2.2.1, x.2.2.2.1, x.2.2.2.2.1, x.2.2.2.2.2.1, x.2.2.2.2.2.2.1, x.2.2.2.2.2.2.2.1, x.2.2.2.2.2.2.2.2.1, x.2.2.2.2.2.2.2.2.2.1) ∧ Stp [12, 13, 15, 16, 17, 21, 22, 23, 24, 25, 26, 27, 30, 1001, 1002, 1004, 1005, 1006, 1010, 1011, 1013, 1015, 1016, 1018, 1019, 1020, 1022, 1023, 1024, 1028, 1029] O51 wd52 x.2.2.2.2.2.2.2.2.2.2.1 w' ∧ Sl Rep.b w' (imm x.2.2.2.2.2.2.2.2.2.2.1) x.2.2.2.2.2.2.2.2.2.2.2.1 x.1 ∧ Blk 12 x.2.2.2.2.2.2.2.2.2.2.1 w' p23 107 [x.2.2.2.2.2.2.2.2.2.2.2.1, vi x.2.1, vi x.2.2.1] ∧ Blk 13 x.2.2.2.2.2.2.2.2.2.2.1 w' p37 117 [Value.pointer (some ⟨p23, 0, none⟩), vi x.2.2.2.1] ∧ OwnSl 1045 Rep.u 22 x.2.2.2.2.2.2.2.2.2.2.1 w' x.2.2.2.2.2.2.2.2.2.2.2.2.1 x.2.2.2.2.2.2.2.1 ∧ OwnSl 1046 Rep.u 22 x.2.2.2.2.2.2.2.2.2.2.1 w' x.2.2.2.2.2.2.2.2.2.2.2.2.2 x.2.2.2.2.2.2.2.2.2.1 ∧ Blk 15 x.2.2.2.2.2.2.2.2.2.2.1 w' p50 27 [vi x.2.2.2.2.1, vu x.2.2.2.2.2.1, vi x.2.2.2.2.2.2.1, x.2.2.2.2.2.2.2.2.2.2.2.2.1, vi x.2.2.2.2.2.2.2.2.1, x.2.2.2.2.2.2.2.2.2.2.2.2.2]) (fun x => [(0, Value.pointer (some ⟨b0, 0, none⟩)), (1, Value.pointer (some ⟨b1, 0, none⟩)), (4, Value.pointer (some ⟨p17, 0, none⟩)), (6, Value.pointer (some ⟨p23, 0, none⟩)), (7, Value.pointer (some ⟨p42, 0, none⟩)), (8, Value.pointer (some ⟨p50, 0, none⟩))]) ?_ ?_
 ·refine WC.seq ?_
  refine WC.region ?_
  have hf78 := hb48.st hst53 rfl
  refine WL.y (Y.loadSc ty115 rfl rfl (hf78.cell 0 _ rfl)) rfl ?_
  obtain ⟨p91, h, hk92⟩ := bnd h
  refine WL.callJ (vals := [Value.pointer (some ⟨p37, 0, none⟩), vi 1]) (σ := (List UInt8 × Int × Int × Int × Int × Own × Value)) (fun x w' => (x.1, x.2.1, x.2.2.1, x.2.2.2.1, x.2.2.2.2.1) = p91 ∧ Stp [12, 13] O51 wd52 x.2.2.2.2.2.1 w' ∧ Sl Rep.b w' (imm x.2.2.2.2.2.1) x.2.2.2.2.2.2 x.1 ∧ Blk 12 x.2.2.2.2.2.1 w' p23 107 [x.2.2.2.2.2.2, vi x.2.1, vi x.2.2.1] ∧ Blk 13 x.2.2.2.2.2.1 w' p37 117 [Value.pointer (some ⟨p23, 0, none⟩), vi x.2.2.2.1]) (fun x => vi x.2.2.2.2.1) kok82 rfl rfl ?_ ?_
  ·refine Rets.enter Try.func82 rfl rfl ?_
   refine (show WC _ _ _ _ [(0, Value.pointer (some ⟨p37, 0, none⟩)), (1, vi 1)] _ from ?_)
   refine WC.seq ?_
   refine WC.region ?_
   refine WL.y (Y.assign rfl) rfl ?_
   refine WL.nil ?_
   refine At.then ?_
   refine WC.seq ?_
   refine WC.seq ?_
   refine WC.region ?_
   refine WL.y (Y.move rfl) rfl ?_
   refine WL.y (Y.nilCheck rfl) rfl ?_
   refine WL.y (Y.fieldAddr fo117_1 rfl) rfl ?_
   have hf93 := hb36.st hst45 rfl
   have hf94 := hf93.st hst47 rfl
   have hf95 := hf94.st hst53 rfl
   refine WL.y (Y.loadSc ty32 rfl rfl (hf95.cell 1 _ rfl)) rfl ?_
   refine WL.y (Y.neq_i rfl rfl) rfl ?_
   refine WL.nil ?_
   refine At.then ?_
   rcases cnd h with ⟨hc96, h⟩ | ⟨hc96, h⟩
   ·refine WC.condT' rfl hc96 ?_
    refine WC.seq ?_
    refine WC.region ?_
    refine WL.y (Y.assign rfl) rfl ?_
    refine WL.nil ?_
    refine At.then ?_
    refine WC.ret ?_
    refine At.thenR ?_
    have hf97 := hf28.mono (imm_st hst34 rfl rfl)
    have hf98 := hf97.mono (imm_st hst40 rfl rfl)
    have hf99 := hf98.mono (imm_st hst45 rfl rfl)
    have hf100 := hf99.mono (imm_st hst47 rfl rfl)
    have hf101 := hf100.mono (imm_st hst53 rfl rfl)
    have hf102 := hb35.st hst40 rfl
    have hf103 := hf102.st hst45 rfl
    have hf104 := hf103.st hst47 rfl
    have hf105 := hf104.st hst53 rfl
    exact At.res (.inl rfl) rfl (.tmp rfl .nil) ⟨(a1.b, a1.n, a1.at_, 0, 0, O51, (Value.slice p29 m30 c31)), ⟨some1 h, (Stp.refl _ _ _), hf101, hf105, hf95⟩, rfl⟩
   ·refine WC.condF' rfl hc96 ?_
    refine WC.skip ?_
    refine At.then ?_
    refine WC.seq ?_
    refine WC.region ?_
    refine WL.y (Y.move rfl) rfl ?_
    refine WL.y (Y.nilCheck rfl) rfl ?_
    refine WL.y (Y.fieldAddr fo117_0 rfl) rfl ?_
    refine WL.y (Y.loadSc ty61 rfl rfl (hf95.cell 0 _ rfl)) rfl ?_
    refine WL.y (Y.move rfl) rfl ?_
    have hf106 := hb35.st hst40 rfl
    have hf107 := hf106.st hst45 rfl
    have hf108 := hf107.st hst47 rfl
    have hf109 := hf108.st hst53 rfl
    have hf110 := hf28.mono (imm_st hst34 rfl rfl)
    have hf111 := hf110.mono (imm_st hst40 rfl rfl)
    have hf112 := hf111.mono (imm_st hst45 rfl rfl)
    have hf113 := hf112.mono (imm_st hst47 rfl rfl)
    have hf114 := hf113.mono (imm_st hst53 rfl rfl)
    obtain ⟨⟨r115, r116, r117⟩, hp118, h⟩ := bnd h
    refine WL.call (vals := [Value.pointer (some ⟨p23, 0, none⟩), vi 1]) kok103 rfl rfl (c_bitio_Reader_Take (A := imm O51) (a0 := a1) hf114 hf109.blk (fun k hk => imm_ne hf109.lab rfl k hk) hp118) ?_
    rintro vr124 wd123 ⟨z119, rfl, hm122, f120, f121⟩
    obtain ⟨O125, hold126, hnew127, hst128⟩ := adopt O51 (fun k => 1) [12] hm122 (memB hf109.lab rfl)
    have hf129 : Sl Rep.b wd123 (imm O125) z119 r117.b := Sl.adoptI (O := O51) f120 (fun _ hk => hk) (fun _ _ => Nat.le_refl _) hold126 hnew127
    have hb130 : Blk 12 O125 wd123 p23 107 [z119, vi r117.n, vi r117.at_] := Blk.adopt hf109 hold126 f121
    refine WL.y (Y.move rfl) rfl ?_
    refine WL.y (Y.extract rfl rfl) rfl ?_
    refine WL.y (Y.extract rfl rfl) rfl ?_
    refine WL.y (Y.assign rfl) rfl ?_
    refine WL.y (Y.assign rfl) rfl ?_
    refine WL.nil ?_
    refine At.then ?_
    refine WC.seq ?_
    refine WC.seq ?_
    refine WC.region ?_
    refine WL.y (Y.move rfl) rfl ?_
    refine WL.y (Y.not rfl) rfl ?_
    refine WL.nil ?_
    refine At.then ?_
    rcases cnd h with ⟨hc131, h⟩ | ⟨hc131, h⟩
    ·refine WC.condT' rfl hc131 ?_
     refine WC.region ?_
     refine WL.y (Y.move rfl) rfl ?_
     refine WL.y (Y.nilCheck rfl) rfl ?_
     refine WL.y (Y.fieldAddr fo117_1 rfl) rfl ?_
     have hf132 := hf95.st hst128 rfl
     refine WL.store (v := vi 2) (cells' := [Value.pointer (some ⟨p23, 0, none⟩), vi 2]) ty32 rfl rfl hf132 rfl (Nat.le_of_ble_eq_true rfl) rfl rfl ?_
     intro wd133 hst134 hb135
     refine WL.nil ?_
     refine At.then ?_
     refine WC.seq ?_
     refine WC.region ?_
     refine WL.y (Y.move rfl) rfl ?_
     refine WL.y (Y.conv_ui ty22.u ty3.u rfl) rfl ?_
     obtain ⟨t136, ht136, h⟩ := lt1 h
     refine WL.yE (Y.assign rfl) (congrArg vi ht136.symm) rfl ?_
     refine WL.nil ?_
     refine At.then ?_
     refine WC.ret ?_
     have hf137 := hf129.mono (imm_st hst134 rfl rfl)
     have hf138 := hb130.st hst134 rfl
     exact At.res (.inl rfl) rfl (.tmp rfl .nil) ⟨(r117.b, r117.n, r117.at_, 2, t136, O125, z119), ⟨some1 h, (Stp.trans (Stp.up hst128 rfl) (Stp.up hst134 rfl)), hf137, hf138, hb135⟩, rfl⟩
    ·refine WC.condF' rfl hc131 ?_
     refine WC.skip ?_
     refine At.then ?_
     refine WC.seq ?_
     refine WC.region ?_
     refine WL.y (Y.move rfl) rfl ?_
     refine WL.y (Y.conv_ui ty22.u ty3.u rfl) rfl ?_
     obtain ⟨t139, ht139, h⟩ := lt1 h
     refine WL.yE (Y.assign rfl) (congrArg vi ht139.symm) rfl ?_
     refine WL.nil ?_
     refine At.then ?_
     refine WC.ret ?_
     have hf140 := hf95.st hst128 rfl
     exact At.res (.inl rfl) rfl (.tmp rfl .nil) ⟨(r117.b, r117.n, r117.at_, 0, t139, O125, z119), ⟨some1 h, (Stp.up hst128 rfl), hf129, hb130, hf140⟩, rfl⟩
  ·rintro ⟨c80, c83, c84, c86, x87, O88, v81⟩ wd89 ⟨rfl, hst90, hf82, hb79, hb85⟩
   replace h := hk92
   try dsimp only at h hst90 hf82 hb79 hb85
   refine (show WL _ _ _ _ _ ((15, vi x87) :: _) _ from ?_)
   refine WL.y (Y.eql_i rfl rfl) rfl ?_
   refine WL.nil ?_
   refine At.then ?_
   rcases cnd h with ⟨hc141, h⟩ | ⟨hc141, h⟩
   ·refine WC.condT' rfl hc141 ?_
    refine WC.seq ?_
    refine WC.seq ?_
    refine WC.region ?_
    refine WL.y (Y.move rfl) rfl ?_
    refine WL.y (Y.nilCheck rfl) rfl ?_
    refine WL.y (Y.fieldAddr fo88_0 rfl) rfl ?_
    have hf142 := hb13.st hst20 rfl
    have hf143 := hf142.st hst26 rfl
    have hf144 := hf143.st hst34 rfl
    have hf145 := hf144.st hst40 rfl
    have hf146 := hf145.st hst45 rfl
    have hf147 := hf146.st hst47 rfl
    have hf148 := hf147.st hst53 rfl
    have hf149 := hf148.st hst90 rfl
    refine WL.y (Y.loadSc ty3 rfl rfl (hf149.cell 0 _ rfl)) rfl ?_
    refine WL.y (Y.eql_i rfl rfl) rfl ?_
    refine WL.nil ?_
    refine At.then ?_
    rcases cnd h with ⟨hc150, h⟩ | ⟨hc150, h⟩
    ·refine WC.condT' rfl hc150 ?_
     refine WC.seq ?_
     refine WC.region ?_
     refine WL.y (Y.build (vals := []) (cells := [vi 0, vu 0, vi 0, Value.slice none 0 0, vi 0, Value.slice none 0 0]) (Fits.evalp rfl) (by kernel_rfl)) rfl ?_
     have hf151 := hb16.st hst26 rfl
     have hf152 := hf151.st hst34 rfl
     have hf153 := hf152.st hst40 rfl
     have hf154 := hf153.st hst45 rfl
     have hf155 := hf154.st hst47 rfl
     have hf156 := hf155.st hst53 rfl
     have hf157 := hf156.st hst90 rfl
     refine WL.store (v := Value.agg (List.toArray [vi 0, vu 0, vi 0, Value.slice none 0 0, vi 0, Value.slice none 0 0])) (cells' := [vi 0, vu 0, vi 0, Value.slice none 0 0, vi 0, Value.slice none 0 0]) ty27 rfl rfl hf157 rfl (Nat.le_of_ble_eq_true rfl) rfl rfl ?_
     intro wd158 hst159 hb160
     refine WL.y (Y.assign rfl) rfl ?_
     refine WL.nil ?_
     refine At.then ?_
     refine WC.ret ?_
     refine At.thenR ?_
     have h := outs1 h hk77
     refine At.joinR ?_
     refine At.thenR ?_
     obtain ⟨rfl, rfl, rfl, rfl⟩ := tup4 h
     have hs161 : Stp [11, 12, 13, 14] (Lg.OB b0 3 (Lg.OV v0_4 4 (Lg.OV v0_6 5 (Lg.OB b1 6 (Lg.O0 A))))) w O88 wd158 := (Stp.trans (Stp.up hst20 rfl) (Stp.trans (Stp.up hst26 rfl) (Stp.trans (Stp.up hst34 rfl) (Stp.trans (Stp.up hst40 rfl) (Stp.trans (Stp.up hst45 rfl) (Stp.trans (Stp.up hst47 rfl) (Stp.trans (Stp.up hst53 rfl) (Stp.trans (Stp.up hst90 rfl) (Stp.up hst159 rfl)))))))))
     have hf162 := hf149.st hst159 rfl
     have hf163 := ho11.st hst20 rfl rfl rfl
     have hf164 := hf163.st hst26 rfl rfl rfl
     have hf165 := hf164.st hst34 rfl rfl rfl
     have hf166 := hf165.st hst40 rfl rfl rfl
     have hf167 := hf166.st hst45 rfl rfl rfl
     have hf168 := hf167.st hst47 rfl rfl rfl
     have hf169 := hf168.st hst53 rfl rfl rfl
     have hf170 := hf169.st hst90 rfl rfl rfl
     have hf171 := hf170.st hst159 rfl rfl rfl
     have hf172 := ho12.st hst20 rfl rfl rfl
     have hf173 := hf172.st hst26 rfl rfl rfl
     have hf174 := hf173.st hst34 rfl rfl rfl
     have hf175 := hf174.st hst40 rfl rfl rfl
     have hf176 := hf175.st hst45 rfl rfl rfl
     have hf177 := hf176.st hst47 rfl rfl rfl
     have hf178 := hf177.st hst53 rfl rfl rfl
     have hf179 := hf178.st hst90 rfl rfl rfl
     have hf180 := hf179.st hst159 rfl rfl rfl
     have hf181 := hf21.st hst26 rfl
     have hf182 := hf181.st hst34 rfl
     have hf183 := hf182.st hst40 rfl
     have hf184 := hf183.st hst45 rfl
     have hf185 := hf184.st hst47 rfl
     have hf186 := hf185.st hst53 rfl
     have hf187 := hf186.st hst90 rfl
     have hf188 := hf187.st hst159 rfl
     have hf189 := hf28.mono (imm_st hst34 rfl rfl)
     have hf190 := hf189.mono (imm_st hst40 rfl rfl)
     have hf191 := hf190.mono (imm_st hst45 rfl rfl)
     have hf192 := hf191.mono (imm_st hst47 rfl rfl)
     have hf193 := hf192.mono (imm_st hst53 rfl rfl)
     have hf194 := hf193.mono (imm_st hst90 rfl rfl)
     have hf195 := hf194.mono (imm_st hst159 rfl rfl)
     exact At.res (.inl rfl) rfl (.cell rfl (hb160.runAg 0 [vi 0, vu 0, vi 0, Value.slice none 0 0, vi 0, Value.slice none 0 0] ty27 rfl rfl rfl) (.tmp rfl .nil)) ⟨Value.slice none 0 0, Value.slice none 0 0, v0_4, v0_6, (Value.slice p29 m30 c31), rfl, (Stp.modL hs161 (sB (sV (sV sB1))) rfl rfl), RowF.nil, RowF.nil, (OwnSl.outG hf171 hs161 (lowB (lowV (lowV (lowB low0 rfl rfl) rfl rfl) rfl rfl) rfl rfl) (lsB (lbV (lnV (lnB (ln0 rfl) rfl) rfl)) rfl)), (OwnSl.outG hf180 hs161 (lowB (lowV (lowV (lowB low0 rfl rfl) rfl rfl) rfl rfl) rfl rfl) (lsB (lsV (lbV (lnB (ln0 rfl) rfl)) rfl) rfl)), hf162.blk, (Sl.outIB hf195 hs161 (lowB (lowV (lowV (lowB low0 rfl rfl) rfl rfl) rfl rfl) rfl rfl) (aB (aV (aV (aB O0_A rfl) rfl) rfl) rfl) (fun k hk => ⟨not_nil, not_nil, not_own hf171.labs rfl hk, not_own hf180.labs rfl hk⟩)), hf188.blk, (fun _ e => absurd e not_nil), (fun _ e => absurd e not_nil), (fun _ e => absurd e not_nil), (fun _ e => absurd e not_nil), (fun _ e => absurd e not_nil), (ne_own hf171 hf180 rfl)⟩
    ·refine WC.condF' rfl hc150 ?_
     refine WC.skip ?_
     refine At.then ?_
     refine WC.seq ?_
     refine WC.region ?_
     refine WL.y (Y.move rfl) rfl ?_
     refine WL.y (Y.nilCheck rfl) rfl ?_
     refine WL.y (Y.fieldAddr fo88_1 rfl) rfl ?_
     refine WL.y (Y.loadAg ty27 rfl rfl (hf149.cells 1 [vi a0.last.Scale, vu a0.last.Zero, vi a0.last.Pos.Offset, v0_4, vi a0.last.Neg.Offset, v0_6] rfl) rfl) rfl ?_
     have hf196 := ho11.st hst20 rfl rfl rfl
     have hf197 := hf196.st hst26 rfl rfl rfl
     have hf198 := hf197.st hst34 rfl rfl rfl
     have hf199 := hf198.st hst40 rfl rfl rfl
     have hf200 := hf199.st hst45 rfl rfl rfl
     have hf201 := hf200.st hst47 rfl rfl rfl
     have hf202 := hf201.st hst53 rfl rfl rfl
     have hf203 := hf202.st hst90 rfl rfl rfl
     have hf204 := ho12.st hst20 rfl rfl rfl
     have hf205 := hf204.st hst26 rfl rfl rfl
     have hf206 := hf205.st hst34 rfl rfl rfl
     have hf207 := hf206.st hst40 rfl rfl rfl
     have hf208 := hf207.st hst45 rfl rfl rfl
     have hf209 := hf208.st hst47 rfl rfl rfl
     have hf210 := hf209.st hst53 rfl rfl rfl
     have hf211 := hf210.st hst90 rfl rfl rfl
     obtain ⟨r212, hp213, h⟩ := bnd h
     refine WL.call (vals := [Value.agg (List.toArray [vi a0.last.Scale, vu a0.last.Zero, vi a0.last.Pos.Offset, v0_4, vi a0.last.Neg.Offset, v0_6])]) kok45 rfl rfl (c_hist_Clone (A := fun _ => True) (a0 := a0.last) (hf203.src.sl) (hf211.src.sl) hp213) ?_
     rintro vr221 wd220 ⟨u214, u215, rfl, hm219, f216, f217, f218⟩
     obtain ⟨O222, hold223, hnew224, hst225⟩ := adoptE O88 (fun k => if Value.ownBlock u214 = some k then 16 else if Value.ownBlock u215 = some k then 17 else 1) hm219
     have hf226 : OwnSl 16 Rep.u 22 O222 wd220 u214 r212.Pos.Counts := RowF.adopt 16 Flat.u f216 hnew224 (fun k hk => if_pos hk)
     have hf227 : OwnSl 17 Rep.u 22 O222 wd220 u215 r212.Neg.Counts := RowF.adopt 17 Flat.u f217 hnew224 (fun k hk => (if_neg (fun (e : Value.ownBlock u214 = some k) => f218 k e hk)).trans (if_pos hk))
     have hh231 := h
     obtain ⟨p228, m229, c230, rfl⟩ := hf226.shape
     have h := hh231
     have hh235 := h
     obtain ⟨p232, m233, c234, rfl⟩ := hf227.shape
     have h := hh235
     have hf236 := hb49.st hst90 rfl
     have hf237 := hf236.st hst225 rfl
     refine WL.store (v := Value.agg (List.toArray [vi r212.Scale, vu r212.Zero, vi r212.Pos.Offset, (Value.slice p228 m229 c230), vi r212.Neg.Offset, (Value.slice p232 m233 c234)])) (cells' := [vi r212.Scale, vu r212.Zero, vi r212.Pos.Offset, (Value.slice p228 m229 c230), vi r212.Neg.Offset, (Value.slice p232 m233 c234)]) ty27 rfl rfl hf237 rfl (Nat.le_of_ble_eq_true rfl) rfl rfl ?_
     intro wd238 hst239 hb240
     refine WL.nil ?_
     refine At.then ?_
     refine WC.region ?_
     refine WL.y (Y.move rfl) rfl ?_
     refine WL.y (Y.nilCheck rfl) rfl ?_
     refine WL.y (Y.fieldAddr fo88_1 rfl) rfl ?_
     have hf241 := hf149.st hst225 rfl
     have hf242 := hf241.st hst239 rfl
     refine WL.y (Y.loadAg ty27 rfl rfl (hf242.cells 1 [vi a0.last.Scale, vu a0.last.Zero, vi a0.last.Pos.Offset, v0_4, vi a0.last.Neg.Offset, v0_6] rfl) rfl) rfl ?_
     have hf243 := hf203.st hst225 rfl rfl rfl
     have hf244 := hf243.st hst239 rfl rfl rfl
     have hf245 := hf211.st hst225 rfl rfl rfl
     have hf246 := hf245.st hst239 rfl rfl rfl
     obtain ⟨r247, hp248, h⟩ := bnd h
     refine WL.call (vals := [Value.agg (List.toArray [vi a0.last.Scale, vu a0.last.Zero, vi a0.last.Pos.Offset, v0_4, vi a0.last.Neg.Offset, v0_6])]) kok68 rfl rfl (c_histbits_counts (A := fun _ => True) (a0 := a0.last) (hf244.src.sl) (hf246.src.sl) hp248) ?_
     rintro vr253 wd252 ⟨_, rfl, hm251, f250⟩
     obtain ⟨O254, hold255, hnew256, hst257⟩ := adoptE O222 (fun k => if Value.ownBlock vr253 = some k then 18 else 1) hm251
     have hf258 : OwnSl 18 Rep.u 22 O254 wd252 vr253 r247 := RowF.adopt 18 Flat.u f250 hnew256 (fun k hk => if_pos hk)
     refine WL.y (Y.mkfunc (fv := []) (cv := [Value.pointer (some ⟨p42, 0, none⟩)]) rfl rfl) rfl ?_
     obtain ⟨p278, h, hk279⟩ := bnd h
     refine WL.callJ (vals := [Value.pointer (some ⟨p50, 0, none⟩), vr253, Value.func (.func 84) (List.toArray []) (List.toArray [Value.pointer (some ⟨p42, 0, none⟩)])]) (σ := (List UInt8 × Int × Int × Int × UInt64 × List UInt64 × List UInt64 × Own × Value)) (fun x w' => (x.1, x.2.1, x.2.2.1, x.2.2.2.1, x.2.2.2.2.1, x.2.2.2.2.2.1, x.2.2.2.2.2.2.1) = p278 ∧ Stp [12, 13, 15, 16, 17, 21, 1001, 1002, 1004, 1005, 1006] O254 wd252 x.2.2.2.2.2.2.2.1 w' ∧ Sl Rep.b w' (imm x.2.2.2.2.2.2.2.1) x.2.2.2.2.2.2.2.2 x.1 ∧ Blk 12 x.2.2.2.2.2.2.2.1 w' p23 107 [x.2.2.2.2.2.2.2.2, vi x.2.1, vi x.2.2.1] ∧ Blk 13 x.2.2.2.2.2.2.2.1 w' p37 117 [Value.pointer (some ⟨p23, 0, none⟩), vi x.2.2.2.1] ∧ OwnSl 1010 Rep.u 22 x.2.2.2.2.2.2.2.1 w' (Value.slice p228 m229 c230) x.2.2.2.2.2.1 ∧ OwnSl 1011 Rep.u 22 x.2.2.2.2.2.2.2.1 w' (Value.slice p232 m233 c234) x.2.2.2.2.2.2.1 ∧ Blk 15 x.2.2.2.2.2.2.2.1 w' p50 27 [vi r212.Scale, vu x.2.2.2.2.1, vi r212.Pos.Offset, (Value.slice p228 m229 c230), vi r212.Neg.Offset, (Value.slice p232 m233 c234)]) (fun x => Value.tuple (List.toArray [])) kok83 rfl rfl ?_ ?_
     ·refine Rets.enter Try.func83 rfl rfl ?_
      refine (show WC _ _ _ _ [(0, Value.pointer (some ⟨p50, 0, none⟩)), (1, vr253), (2, Value.func (.func 84) (List.toArray []) (List.toArray [Value.pointer (some ⟨p42, 0, none⟩)]))] _ from ?_)
      refine WC.seq ?_
      refine WC.region ?_
      have hh283 := h
      obtain ⟨p280, m281, c282, rfl⟩ := hf258.shape
      have h := hh283
      refine WL.box (O := O254) 19 [(Value.slice p280 m281 c282)] rfl rfl rfl ?_
      intro p285 O286 wd287 hst288 hb284
      refine WL.box (O := O286) 20 [Value.func (.func 84) (List.toArray []) (List.toArray [Value.pointer (some ⟨p42, 0, none⟩)])] rfl rfl rfl ?_
      intro p290 O291 wd292 hst293 hb289
      refine WL.nil ?_
      refine At.then ?_
      refine WC.seq ?_
      refine WC.region ?_
      refine WL.alloc (O := O291) 21 [vi 0] ty3 rfl rfl ?_
      intro p295 O296 wd297 hst298 hb294
      refine WL.store (v := vi 0) (cells' := [vi 0]) ty3 rfl rfl hb294 rfl (Nat.le_of_ble_eq_true rfl) rfl rfl ?_
      intro wd299 hst300 hb301
      refine WL.nil ?_
      refine At.then ?_
      refine WC.seq ?_
      refine WC.region ?_
      refine WL.y (Y.mkfunc (fv := []) (cv := [Value.pointer (some ⟨p290, 0, none⟩), Value.pointer (some ⟨p295, 0, none⟩), Value.pointer (some ⟨p285, 0, none⟩)]) rfl rfl) rfl ?_
      refine WL.y (Y.assign rfl) rfl ?_
      refine WL.nil ?_
      refine At.then ?_
      refine WC.seq ?_
      refine WC.region ?_
      refine WL.y (Y.move rfl) rfl ?_
      refine WL.y (Y.move rfl) rfl ?_
      obtain ⟨p316, h, hk317⟩ := bnd h
      refine WL.callV (fv := []) (cv := [Value.pointer (some ⟨p290, 0, none⟩), Value.pointer (some ⟨p295, 0, none⟩), Value.pointer (some ⟨p285, 0, none⟩)]) (vals := []) (σ := (List UInt8 × Int × Int × Int × Int × UInt64 × Own × Value)) (fun x w' => (x.1, x.2.1, x.2.2.1, x.2.2.2.1, x.2.2.2.2.1, x.2.2.2.2.2.1) = p316 ∧ Stp [12, 13, 21] O296 wd299 x.2.2.2.2.2.2.1 w' ∧ Sl Rep.b w' (imm x.2.2.2.2.2.2.1) x.2.2.2.2.2.2.2 x.1 ∧ Blk 12 x.2.2.2.2.2.2.1 w' p23 107 [x.2.2.2.2.2.2.2, vi x.2.1, vi x.2.2.1] ∧ Blk 13 x.2.2.2.2.2.2.1 w' p37 117 [Value.pointer (some ⟨p23, 0, none⟩), vi x.2.2.2.1] ∧ Blk 21 x.2.2.2.2.2.2.1 w' p295 3 [vi x.2.2.2.2.1]) (fun x => vu x.2.2.2.2.2.1) kok104 rfl rfl rfl ?_ ?_
      ·refine Rets.enter Try.func104 rfl rfl ?_
       refine (show WC _ _ _ _ [(0, Value.pointer (some ⟨p290, 0, none⟩)), (1, Value.pointer (some ⟨p295, 0, none⟩)), (2, Value.pointer (some ⟨p285, 0, none⟩))] _ from ?_)
       refine WC.seq ?_
       refine WC.region ?_
       refine WL.y (Y.assign (v := vu 0) rfl) rfl ?_
       refine WL.nil ?_
       refine At.then ?_
       refine WC.seq ?_
       refine WC.region ?_
       have hf318 := hb289.st hst298 rfl
       have hf319 := hf318.st hst300 rfl
       refine WL.y (Y.loadSc ty113 rfl rfl (hf319.cell 0 _ rfl)) rfl ?_
       obtain ⟨p332, h, hk333⟩ := bnd h
       refine WL.callV (fv := []) (cv := [Value.pointer (some ⟨p42, 0, none⟩)]) (vals := []) (σ := (List UInt8 × Int × Int × Int × UInt64 × Own × Value)) (fun x w' => (x.1, x.2.1, x.2.2.1, x.2.2.2.1, x.2.2.2.2.1) = p332 ∧ Stp [12, 13] O296 wd299 x.2.2.2.2.2.1 w' ∧ Sl Rep.b w' (imm x.2.2.2.2.2.1) x.2.2.2.2.2.2 x.1 ∧ Blk 12 x.2.2.2.2.2.1 w' p23 107 [x.2.2.2.2.2.2, vi x.2.1, vi x.2.2.1] ∧ Blk 13 x.2.2.2.2.2.1 w' p37 117 [Value.pointer (some ⟨p23, 0, none⟩), vi x.2.2.2.1]) (fun x => vu x.2.2.2.2.1) kok84 rfl rfl rfl ?_ ?_
       ·refine Rets.enter Try.func84 rfl rfl ?_
        refine (show WC _ _ _ _ [(0, Value.pointer (some ⟨p42, 0, none⟩))] _ from ?_)
        refine WC.seq ?_
        refine WC.region ?_
        refine WL.y (Y.assign (v := vu 0) rfl) rfl ?_
        refine WL.nil ?_
        refine At.then ?_
        refine WC.seq ?_
        refine WC.region ?_
        have hf334 := hf78.st hst90 rfl
        have hf335 := hf334.st hst225 rfl
        have hf336 := hf335.st hst239 rfl
        have hf337 := hf336.st hst257 rfl
        have hf338 := hf337.st hst288 rfl
        have hf339 := hf338.st hst293 rfl
        have hf340 := hf339.st hst298 rfl
        have hf341 := hf340.st hst300 rfl
        refine WL.y (Y.loadSc ty115 rfl rfl (hf341.cell 0 _ rfl)) rfl ?_
        obtain ⟨p354, h, hk355⟩ := bnd h
        refine WL.callJ (vals := [Value.pointer (some ⟨p37, 0, none⟩)]) (σ := (List UInt8 × Int × Int × Int × Int × Own × Value)) (fun x w' => (x.1, x.2.1, x.2.2.1, x.2.2.2.1, x.2.2.2.2.1) = p354 ∧ Stp [12, 13] O296 wd299 x.2.2.2.2.2.1 w' ∧ Sl Rep.b w' (imm x.2.2.2.2.2.1) x.2.2.2.2.2.2 x.1 ∧ Blk 12 x.2.2.2.2.2.1 w' p23 107 [x.2.2.2.2.2.2, vi x.2.1, vi x.2.2.1] ∧ Blk 13 x.2.2.2.2.2.1 w' p37 117 [Value.pointer (some ⟨p23, 0, none⟩), vi x.2.2.2.1]) (fun x => vi x.2.2.2.2.1) kok85 rfl rfl ?_ ?_
        ·refine Rets.enter Try.func85 rfl rfl ?_
         refine (show WC _ _ _ _ [(0, Value.pointer (some ⟨p37, 0, none⟩))] _ from ?_)
         refine WC.seq ?_
         refine WC.region ?_
         refine WL.y (Y.assign rfl) rfl ?_
         refine WL.nil ?_
         refine At.then ?_
         refine WC.seq ?_
         refine WC.seq ?_
         refine WC.region ?_
         refine WL.y (Y.move rfl) rfl ?_
         refine WL.y (Y.nilCheck rfl) rfl ?_
         refine WL.y (Y.fieldAddr fo117_1 rfl) rfl ?_
         have hf356 := hb85.st hst225 rfl
         have hf357 := hf356.st hst239 rfl
         have hf358 := hf357.st hst257 rfl
         have hf359 := hf358.st hst288 rfl
         have hf360 := hf359.st hst293 rfl
         have hf361 := hf360.st hst298 rfl
         have hf362 := hf361.st hst300 rfl
         refine WL.y (Y.loadSc ty32 rfl rfl (hf362.cell 1 _ rfl)) rfl ?_
         refine WL.y (Y.neq_i rfl rfl) rfl ?_
         refine WL.nil ?_
         refine At.then ?_
         rcases cnd h with ⟨hc363, h⟩ | ⟨hc363, h⟩
         ·refine WC.condT' rfl hc363 ?_
          refine WC.seq ?_
          refine WC.region ?_
          refine WL.y (Y.assign rfl) rfl ?_
          refine WL.nil ?_
          refine At.then ?_
          refine WC.ret ?_
          refine At.thenR ?_
          have hf364 := hf82.mono (imm_st hst225 rfl rfl)
          have hf365 := hf364.mono (imm_st hst239 rfl rfl)
          have hf366 := hf365.mono (imm_st hst257 rfl rfl)
          have hf367 := hf366.mono (imm_st hst288 rfl rfl)
          have hf368 := hf367.mono (imm_st hst293 rfl rfl)
          have hf369 := hf368.mono (imm_st hst298 rfl rfl)
          have hf370 := hf369.mono (imm_st hst300 rfl rfl)
          have hf371 := hb79.st hst225 rfl
          have hf372 := hf371.st hst239 rfl
          have hf373 := hf372.st hst257 rfl
          have hf374 := hf373.st hst288 rfl
          have hf375 := hf374.st hst293 rfl
          have hf376 := hf375.st hst298 rfl
          have hf377 := hf376.st hst300 rfl
          exact At.res (.inl rfl) rfl (.tmp rfl .nil) ⟨(c80, c83, c84, c86, 0, O296, v81), ⟨some1 h, (Stp.refl _ _ _), hf370, hf377, hf362⟩, rfl⟩
         ·refine WC.condF' rfl hc363 ?_
          refine WC.skip ?_
          refine At.then ?_
          refine WC.seq ?_
          refine WC.region ?_
          refine WL.y (Y.move rfl) rfl ?_
          refine WL.y (Y.nilCheck rfl) rfl ?_
          refine WL.y (Y.fieldAddr fo117_0 rfl) rfl ?_
          refine WL.y (Y.loadSc ty61 rfl rfl (hf362.cell 0 _ rfl)) rfl ?_
          have hf378 := hb79.st hst225 rfl
          have hf379 := hf378.st hst239 rfl
          have hf380 := hf379.st hst257 rfl
          have hf381 := hf380.st hst288 rfl
          have hf382 := hf381.st hst293 rfl
          have hf383 := hf382.st hst298 rfl
          have hf384 := hf383.st hst300 rfl
          have hf385 := hf82.mono (imm_st hst225 rfl rfl)
          have hf386 := hf385.mono (imm_st hst239 rfl rfl)
          have hf387 := hf386.mono (imm_st hst257 rfl rfl)
          have hf388 := hf387.mono (imm_st hst288 rfl rfl)
          have hf389 := hf388.mono (imm_st hst293 rfl rfl)
          have hf390 := hf389.mono (imm_st hst298 rfl rfl)
          have hf391 := hf390.mono (imm_st hst300 rfl rfl)
          obtain ⟨⟨r392, r393, r394⟩, hp395, h⟩ := bnd h
          refine WL.call (vals := [Value.pointer (some ⟨p23, 0, none⟩)]) kok105 rfl rfl (c_vary_GetInt (A := imm O296) (a0 := (bitio_Reader.mk c80 c83 c84)) hf391 hf384.blk (fun k hk => imm_ne hf384.lab rfl k hk) hp395) ?_
          rintro vr401 wd400 ⟨z396, rfl, hm399, f397, f398⟩
          obtain ⟨O402, hold403, hnew404, hst405⟩ := adopt O296 (fun k => 1) [12] hm399 (memB hf384.lab rfl)
          have hf406 : Sl Rep.b wd400 (imm O402) z396 r394.b := Sl.adoptI (O := O296) f397 (fun _ hk => hk) (fun _ _ => Nat.le_refl _) hold403 hnew404
          have hb407 : Blk 12 O402 wd400 p23 107 [z396, vi r394.n, vi r394.at_] := Blk.adopt hf384 hold403 f398
          refine WL.y (Y.move rfl) rfl ?_
          refine WL.y (Y.extract rfl rfl) rfl ?_
          refine WL.y (Y.extract rfl rfl) rfl ?_
          refine WL.y (Y.assign rfl) rfl ?_
          refine WL.y (Y.assign rfl) rfl ?_
          refine WL.nil ?_
          refine At.then ?_
          refine WC.seq ?_
          refine WC.region ?_
          refine WL.y (Y.move rfl) rfl ?_
          refine WL.y (Y.move rfl) rfl ?_
          refine WL.y (Y.nilCheck rfl) rfl ?_
          refine WL.y (Y.fieldAddr fo117_1 rfl) rfl ?_
          have hf408 := hf362.st hst405 rfl
          refine WL.store (v := vi r393) (cells' := [Value.pointer (some ⟨p23, 0, none⟩), vi r393]) ty32 rfl rfl hf408 rfl (Nat.le_of_ble_eq_true rfl) rfl rfl ?_
          intro wd409 hst410 hb411
          refine WL.nil ?_
          refine At.then ?_
          refine WC.seq ?_
          refine WC.region ?_
          refine WL.y (Y.move rfl) rfl ?_
          refine WL.y (Y.assign rfl) rfl ?_
          refine WL.nil ?_
          refine At.then ?_
          refine WC.ret ?_
          have hf412 := hf406.mono (imm_st hst410 rfl rfl)
          have hf413 := hb407.st hst410 rfl
          exact At.res (.inl rfl) rfl (.tmp rfl .nil) ⟨(r394.b, r394.n, r394.at_, r393, r392, O402, z396), ⟨some1 h, (Stp.trans (Stp.up hst405 rfl) (Stp.up hst410 rfl)), hf412, hf413, hb411⟩, rfl⟩
        ·rintro ⟨c343, c346, c347, c349, x350, O351, v344⟩ wd352 ⟨rfl, hst353, hf345, hb342, hb348⟩
         replace h := hk355
         try dsimp only at h hst353 hf345 hb342 hb348
         refine (show WL _ _ _ _ _ ((3, vi x350) :: _) _ from ?_)
         refine WL.y (Y.conv_iu ty3.u ty22.u rfl) rfl ?_
         obtain ⟨t414, ht414, h⟩ := lt1 h
         refine WL.yE (Y.assign rfl) (congrArg vu ht414.symm) rfl ?_
         refine WL.nil ?_
         refine At.then ?_
         refine WC.ret ?_
         exact At.res (.inl rfl) rfl (.tmp rfl .nil) ⟨(c343, c346, c347, c349, t414, O351, v344), ⟨some1 h, (Stp.up hst353 rfl), hf345, hb342, hb348⟩, rfl⟩
       ·rintro ⟨c321, c324, c325, c327, x328, O329, v322⟩ wd330 ⟨rfl, hst331, hf323, hb320, hb326⟩
        replace h := hk333
        try dsimp only at h hst331 hf323 hb320 hb326
        refine (show WL _ _ _ _ _ ((6, vu x328) :: _) _ from ?_)
        refine WL.y (Y.assign rfl) rfl ?_
        refine WL.nil ?_
        refine At.then ?_
        refine WC.seq ?_
        obtain ⟨p416, h, hk417⟩ := bnd h
        refine WC.join (σ := UInt64) (fun x w' => x = p416 ∧ wd330 = w') (fun x => [(1, Value.pointer (some ⟨p295, 0, none⟩)), (4, vu x)]) ?_ ?_
        ·refine WC.seq ?_
         refine WC.region ?_
         have hf418 := hb301.st hst331 rfl
         refine WL.y (Y.loadSc ty3 rfl rfl (hf418.cell 0 _ rfl)) rfl ?_
         have hf419 := hb284.st hst293 rfl
         have hf420 := hf419.st hst298 rfl
         have hf421 := hf420.st hst300 rfl
         have hf422 := hf421.st hst331 rfl
         refine WL.y (Y.loadSc ty23 rfl rfl (hf422.cell 0 _ rfl)) rfl ?_
         have hf423 := hf258.st hst288 rfl rfl rfl
         have hf424 := hf423.st hst293 rfl rfl rfl
         have hf425 := hf424.st hst298 rfl rfl rfl
         have hf426 := hf425.st hst300 rfl rfl rfl
         have hf427 := hf426.st hst331 rfl rfl rfl
         refine WL.y (Y.len ty23 rfl hf427.src.sl) rfl ?_
         refine WL.y (Y.lss_i rfl rfl) rfl ?_
         refine WL.nil ?_
         refine At.then ?_
         rcases cnd h with ⟨hc428, h⟩ | ⟨hc428, h⟩
         ·refine WC.condT' rfl hc428 ?_
          refine WC.region ?_
          refine WL.y (Y.move rfl) rfl ?_
          refine WL.y (Y.loadSc ty23 rfl rfl (hf422.cell 0 _ rfl)) rfl ?_
          refine WL.y (Y.loadSc ty3 rfl rfl (hf418.cell 0 _ rfl)) rfl ?_
          obtain ⟨e429, he429, h⟩ := bnd h
          obtain ⟨b430, cap437, cs436, hv431, hi432, hl433, hc434, hok435⟩ := OwnSl.at hf427 he429
          obtain rfl := hok435
          replace hc434 : CellsAt _ _ _ [vu e429] := hc434
          have hca438 := CAt.own hf427 hv431 hc434
          refine WL.y (Y.indexAddr ty23 ty22 rfl hv431 rfl hi432 hl433) rfl ?_
          refine WL.y (Y.loadSc ty22 rfl rfl hca438.at_) rfl ?_
          refine WL.y (Y.add_u rfl rfl) rfl ?_
          obtain ⟨c439, hc439, h⟩ := lt1 h
          refine WL.yE (Y.assign rfl) (congrArg vu hc439.symm) rfl ?_
          refine WL.nil ?_
          exact At.join (σ := UInt64) c439 ⟨some1 h, rfl⟩ (.cons rfl (.cons rfl .nil))
         ·refine WC.condF' rfl hc428 ?_
          refine WC.skip ?_
          exact At.join (σ := UInt64) x328 ⟨some1 h, rfl⟩ (.cons rfl (.cons rfl .nil))
        ·rintro c415 _ ⟨rfl, rfl⟩
         replace h := hk417
         try dsimp only at h
         refine (show At _ _ _ [(1, Value.pointer (some ⟨p295, 0, none⟩)), (4, vu c415)] _ from ?_)
         refine At.then ?_
         refine WC.seq ?_
         refine WC.region ?_
         have hf440 := hb301.st hst331 rfl
         refine WL.y (Y.loadSc ty3 rfl rfl (hf440.cell 0 _ rfl)) rfl ?_
         refine WL.y (Y.add_i rfl rfl) rfl ?_
         obtain ⟨t441, ht441, h⟩ := lt1 h
         refine WL.ren 18 rfl (congrArg vi ht441.symm) ?_
         refine WL.store (v := vi t441) (cells' := [vi t441]) ty3 rfl rfl hf440 rfl (Nat.le_of_ble_eq_true rfl) rfl rfl ?_
         intro wd442 hst443 hb444
         refine WL.nil ?_
         refine At.then ?_
         refine WC.seq ?_
         refine WC.region ?_
         refine WL.y (Y.move rfl) rfl ?_
         refine WL.y (Y.assign rfl) rfl ?_
         refine WL.nil ?_
         refine At.then ?_
         refine WC.ret ?_
         have hf445 := hf323.mono (imm_st hst443 rfl rfl)
         have hf446 := hb320.st hst443 rfl
         have hf447 := hb326.st hst443 rfl
         exact At.res (.inl rfl) rfl (.tmp rfl .nil) ⟨(c321, c324, c325, c327, t441, c415, O329, v322), ⟨some1 h, (Stp.trans (Stp.up hst331 rfl) (Stp.up hst443 rfl)), hf445, hf446, hf447, hb444⟩, rfl⟩
      ·rintro ⟨c304, c307, c308, c309, c311, x312, O313, v305⟩ wd314 ⟨rfl, hst315, hf306, hb303, hb302, hb310⟩
       replace h := hk317
       try dsimp only at h hst315 hf306 hb303 hb302 hb310
       refine (show WL _ _ _ _ _ ((13, vu x312) :: _) _ from ?_)
       refine WL.y (Y.nilCheck rfl) rfl ?_
       refine WL.y (Y.fieldAddr fo27_1 rfl) rfl ?_
       have hf448 := hb240.st hst257 rfl
       have hf449 := hf448.st hst288 rfl
       have hf450 := hf449.st hst293 rfl
       have hf451 := hf450.st hst298 rfl
       have hf452 := hf451.st hst300 rfl
       have hf453 := hf452.st hst315 rfl
       refine WL.store (v := vu x312) (cells' := [vi r212.Scale, vu x312, vi r212.Pos.Offset, (Value.slice p228 m229 c230), vi r212.Neg.Offset, (Value.slice p232 m233 c234)]) ty22 rfl rfl hf453 rfl (Nat.le_of_ble_eq_true rfl) rfl rfl ?_
       intro wd454 hst455 hb456
       refine WL.nil ?_
       refine At.then ?_
       refine WC.seq ?_
       refine WC.seq ?_
       refine WC.region ?_
       refine WL.y (Y.move rfl) rfl ?_
       refine WL.y (Y.nilCheck rfl) rfl ?_
       refine WL.y (Y.fieldAddr fo27_2 rfl) rfl ?_
       refine WL.y (Y.fieldAddr fo25_1 rfl) rfl ?_
       refine WL.y (Y.loadSc ty23 rfl rfl (hb456.cell 3 _ rfl)) rfl ?_
       have hf457 := hf226.st hst239 rfl rfl rfl
       have hf458 := hf457.st hst257 rfl rfl rfl
       have hf459 := hf458.st hst288 rfl rfl rfl
       have hf460 := hf459.st hst293 rfl rfl rfl
       have hf461 := hf460.st hst298 rfl rfl rfl
       have hf462 := hf461.st hst300 rfl rfl rfl
       have hf463 := hf462.st hst315 rfl rfl rfl
       have hf464 := hf463.st hst455 rfl rfl rfl
       refine WL.y (Y.len ty23 rfl hf464.src.sl) rfl ?_
       refine WL.y (Y.move rfl) rfl ?_
       refine WL.nil ?_
       refine At.then ?_
       obtain ⟨p481, h, hk482⟩ := bnd h
       refine WC.join (σ := (List UInt64 × List UInt8 × Int × Int × Int × Int × Own × Value)) (fun x w' => (x.1, x.2.1, x.2.2.1, x.2.2.2.1, x.2.2.2.2.1, x.2.2.2.2.2.1) = p481 ∧ Stp [12, 13, 16, 21, 1001, 1002] O313 wd454 x.2.2.2.2.2.2.1 w' ∧ OwnSl 1004 Rep.u 22 x.2.2.2.2.2.2.1 w' (Value.slice p228 m229 c230) x.1 ∧ Sl Rep.b w' (imm x.2.2.2.2.2.2.1) x.2.2.2.2.2.2.2 x.2.1 ∧ Blk 12 x.2.2.2.2.2.2.1 w' p23 107 [x.2.2.2.2.2.2.2, vi x.2.2.1, vi x.2.2.2.1] ∧ Blk 13 x.2.2.2.2.2.2.1 w' p37 117 [Value.pointer (some ⟨p23, 0, none⟩), vi x.2.2.2.2.1] ∧ Blk 21 x.2.2.2.2.2.2.1 w' p295 3 [vi x.2.2.2.2.2.1]) (fun x => [(0, Value.pointer (some ⟨p50, 0, none⟩)), (7, Value.func (.func 104) (List.toArray []) (List.toArray [Value.pointer (some ⟨p290, 0, none⟩), Value.pointer (some ⟨p295, 0, none⟩), Value.pointer (some ⟨p285, 0, none⟩)]))]) ?_ ?_
       ·refine WC.block ?_
        obtain ⟨p516, h, hk518⟩ := flow1 h
        obtain ⟨k517, h⟩ := loop_some h
        refine WC.joinB 0 (σ := (List UInt64 × List UInt8 × Int × Int × Int × Int × Own × Value)) (fun x w' => p516 = .go (x.1, x.2.1, x.2.2.1, x.2.2.2.1, x.2.2.2.2.1, x.2.2.2.2.2.1) ∧ Stp [12, 13, 16, 21, 1001] O313 wd454 x.2.2.2.2.2.2.1 w' ∧ OwnSl 1002 Rep.u 22 x.2.2.2.2.2.2.1 w' (Value.slice p228 m229 c230) x.1 ∧ Sl Rep.b w' (imm x.2.2.2.2.2.2.1) x.2.2.2.2.2.2.2 x.2.1 ∧ Blk 12 x.2.2.2.2.2.2.1 w' p23 107 [x.2.2.2.2.2.2.2, vi x.2.2.1, vi x.2.2.2.1] ∧ Blk 13 x.2.2.2.2.2.2.1 w' p37 117 [Value.pointer (some ⟨p23, 0, none⟩), vi x.2.2.2.2.1] ∧ Blk 21 x.2.2.2.2.2.2.1 w' p295 3 [vi x.2.2.2.2.2.1]) (fun x => [(0, Value.pointer (some ⟨p50, 0, none⟩)), (7, Value.func (.func 104) (List.toArray []) (List.toArray [Value.pointer (some ⟨p290, 0, none⟩), Value.pointer (some ⟨p295, 0, none⟩), Value.pointer (some ⟨p285, 0, none⟩)]))]) ?_ ?_
        ·obtain ⟨O519, hst520, ho521⟩ := OwnSl.rlb 1001 rfl hf464
         have hf522 := hf306.mono (imm_st hst455 rfl rfl)
         have hf523 := hf522.mono (imm_st hst520 rfl rfl)
         have hf524 := hb303.st hst455 rfl
         have hf525 := hf524.st hst520 rfl
         have hf526 := hb302.st hst455 rfl
         have hf527 := hf526.st hst520 rfl
         have hf528 := hb310.st hst455 rfl
         have hf529 := hf528.st hst520 rfl
         refine WC.loop (σ := (List UInt64 × List UInt8 × Int × Int × Int × Int × Int × Own × Value)) (fun x k w' => loopN k (histbits_Row_Get_lp1 r212 r247) (x.1, x.2.1, x.2.2.1, x.2.2.2.1, x.2.2.2.2.1, x.2.2.2.2.2.1, x.2.2.2.2.2.2.1) = some p516 ∧ Stp [12, 13, 16, 21, 1001] O313 wd454 x.2.2.2.2.2.2.2.1 w' ∧ OwnSl 1001 Rep.u 22 x.2.2.2.2.2.2.2.1 w' (Value.slice p228 m229 c230) x.1 ∧ Sl Rep.b w' (imm x.2.2.2.2.2.2.2.1) x.2.2.2.2.2.2.2.2 x.2.1 ∧ Blk 12 x.2.2.2.2.2.2.2.1 w' p23 107 [x.2.2.2.2.2.2.2.2, vi x.2.2.1, vi x.2.2.2.1] ∧ Blk 13 x.2.2.2.2.2.2.2.1 w' p37 117 [Value.pointer (some ⟨p23, 0, none⟩), vi x.2.2.2.2.1] ∧ Blk 21 x.2.2.2.2.2.2.2.1 w' p295 3 [vi x.2.2.2.2.2.1]) (fun x => [(0, Value.pointer (some ⟨p50, 0, none⟩)), (7, Value.func (.func 104) (List.toArray []) (List.toArray [Value.pointer (some ⟨p290, 0, none⟩), Value.pointer (some ⟨p295, 0, none⟩), Value.pointer (some ⟨p285, 0, none⟩)])), (21, vi (r212.Pos.Counts.length : Int)), (22, vi x.2.2.2.2.2.2.1)]) (r212.Pos.Counts, c304, c307, c308, c309, c311, 0, O519, v305) k517 (.cons rfl (.cons rfl (.cons rfl (.cons rfl .nil)))) ⟨h, (Stp.up hst520 rfl), ho521, hf523, hf525, hf527, hf529⟩ ?_
         rintro ⟨c483, c488, c491, c492, c493, c495, x496, O497, v489⟩ k517 wd498 ⟨h, hst499, hf485, hf490, hb487, hb486, hb494⟩
         obtain ⟨j530, q531, rfl, h, hn532⟩ := rnd1 h
         unfold histbits_Row_Get_lp1 at h
         try dsimp only at h hst499 hf485 hf490 hb487 hb486 hb494
         refine (show WC _ _ _ _ [(0, Value.pointer (some ⟨p50, 0, none⟩)), (7, Value.func (.func 104) (List.toArray []) (List.toArray [Value.pointer (some ⟨p290, 0, none⟩), Value.pointer (some ⟨p295, 0, none⟩), Value.pointer (some ⟨p285, 0, none⟩)])), (21, vi (r212.Pos.Counts.length : Int)), (22, vi x496)] _ from ?_)
         refine WC.seq ?_
         refine WC.region ?_
         refine WL.y (Y.lss_i rfl rfl) rfl ?_
         refine WL.nil ?_
         refine At.then ?_
         refine WC.seq ?_
         rcases cnd h with ⟨hc533, h⟩ | ⟨hc533, h⟩
         ·refine WC.condT' rfl hc533 ?_
          refine WC.skip ?_
          refine At.then ?_
          refine WC.seq ?_
          refine WC.block ?_
          refine WC.seq ?_
          refine WC.region ?_
          refine WL.y (Y.move rfl) rfl ?_
          refine WL.y (Y.assign rfl) rfl ?_
          refine WL.nil ?_
          refine At.then ?_
          refine WC.drawH [12, 13, 21] [0, 1, 2, 3, 4, 5, 6, 7, 8] O497 10 fmix rfl (by kernel_rfl) ?_
          intro wd534 hst535
          refine WD.y 0 rfl (by kernel_rfl) (fun _ _ _ => Y.move rfl) rfl ?_
          refine WD.y 1 rfl (by kernel_rfl) (fun _ _ _ => Y.nilCheck rfl) rfl ?_
          refine WD.y 2 rfl (by kernel_rfl) (fun _ _ _ => Y.fieldAddr fo27_2 rfl) rfl ?_
          refine WD.y 3 rfl (by kernel_rfl) (fun _ _ _ => Y.fieldAddr fo25_1 rfl) rfl ?_
          refine WD.y 4 rfl (by kernel_rfl) (fun wd549 O548 hst550 => have hf551 := hb456.st hst499 rfl; have hf552 := hf551.st hst535 rfl; have hf553 := hf552.st hst550 rfl; Y.loadSc ty23 rfl rfl (hf553.cell 3 _ rfl)) rfl ?_
          refine WD.y 5 rfl (by kernel_rfl) (fun _ _ _ => Y.move rfl) rfl ?_
          refine WD.y 6 rfl (by kernel_rfl) (fun _ _ _ => Y.move rfl) rfl ?_
          refine WD.heavy 7 rfl (by kernel_rfl) ?_
          obtain ⟨p574, h, hk575⟩ := bnd h
          refine WL.callV (fv := []) (cv := [Value.pointer (some ⟨p290, 0, none⟩), Value.pointer (some ⟨p295, 0, none⟩), Value.pointer (some ⟨p285, 0, none⟩)]) (vals := []) (σ := (List UInt8 × Int × Int × Int × Int × UInt64 × Own × Value)) (fun x w' => (x.1, x.2.1, x.2.2.1, x.2.2.2.1, x.2.2.2.2.1, x.2.2.2.2.2.1) = p574 ∧ Stp [12, 13, 21] O497 wd534 x.2.2.2.2.2.2.1 w' ∧ Sl Rep.b w' (imm x.2.2.2.2.2.2.1) x.2.2.2.2.2.2.2 x.1 ∧ Blk 12 x.2.2.2.2.2.2.1 w' p23 107 [x.2.2.2.2.2.2.2, vi x.2.1, vi x.2.2.1] ∧ Blk 13 x.2.2.2.2.2.2.1 w' p37 117 [Value.pointer (some ⟨p23, 0, none⟩), vi x.2.2.2.1] ∧ Blk 21 x.2.2.2.2.2.2.1 w' p295 3 [vi x.2.2.2.2.1]) (fun x => vu x.2.2.2.2.2.1) kok104 rfl rfl rfl ?_ ?_
          ·refine Rets.enter Try.func104 rfl rfl ?_
           refine (show WC _ _ _ _ [(0, Value.pointer (some ⟨p290, 0, none⟩)), (1, Value.pointer (some ⟨p295, 0, none⟩)), (2, Value.pointer (some ⟨p285, 0, none⟩))] _ from ?_)
           refine WC.seq ?_
           refine WC.region ?_
           refine WL.y (Y.assign (v := vu 0) rfl) rfl ?_
           refine WL.nil ?_
           refine At.then ?_
           refine WC.seq ?_
           refine WC.region ?_
           have hf576 := hb289.st hst298 rfl
           have hf577 := hf576.st hst300 rfl
           have hf578 := hf577.st hst315 rfl
           have hf579 := hf578.st hst455 rfl
           have hf580 := hf579.st hst499 rfl
           have hf581 := hf580.st hst535 rfl
           refine WL.y (Y.loadSc ty113 rfl rfl (hf581.cell 0 _ rfl)) rfl ?_
           obtain ⟨p594, h, hk595⟩ := bnd h
           refine WL.callV (fv := []) (cv := [Value.pointer (some ⟨p42, 0, none⟩)]) (vals := []) (σ := (List UInt8 × Int × Int × Int × UInt64 × Own × Value)) (fun x w' => (x.1, x.2.1, x.2.2.1, x.2.2.2.1, x.2.2.2.2.1) = p594 ∧ Stp [12, 13] O497 wd534 x.2.2.2.2.2.1 w' ∧ Sl Rep.b w' (imm x.2.2.2.2.2.1) x.2.2.2.2.2.2 x.1 ∧ Blk 12 x.2.2.2.2.2.1 w' p23 107 [x.2.2.2.2.2.2, vi x.2.1, vi x.2.2.1] ∧ Blk 13 x.2.2.2.2.2.1 w' p37 117 [Value.pointer (some ⟨p23, 0, none⟩), vi x.2.2.2.1]) (fun x => vu x.2.2.2.2.1) kok84 rfl rfl rfl ?_ ?_
           ·refine Rets.enter Try.func84 rfl rfl ?_
            refine (show WC _ _ _ _ [(0, Value.pointer (some ⟨p42, 0, none⟩))] _ from ?_)
            refine WC.seq ?_
            refine WC.region ?_
            refine WL.y (Y.assign (v := vu 0) rfl) rfl ?_
            refine WL.nil ?_
            refine At.then ?_
            refine WC.seq ?_
            refine WC.region ?_
            have hf596 := hf78.st hst90 rfl
            have hf597 := hf596.st hst225 rfl
            have hf598 := hf597.st hst239 rfl
            have hf599 := hf598.st hst257 rfl
            have hf600 := hf599.st hst288 rfl
            have hf601 := hf600.st hst293 rfl
            have hf602 := hf601.st hst298 rfl
            have hf603 := hf602.st hst300 rfl
            have hf604 := hf603.st hst315 rfl
            have hf605 := hf604.st hst455 rfl
            have hf606 := hf605.st hst499 rfl
            have hf607 := hf606.st hst535 rfl
            refine WL.y (Y.loadSc ty115 rfl rfl (hf607.cell 0 _ rfl)) rfl ?_
            obtain ⟨p620, h, hk621⟩ := bnd h
            refine WL.callJ (vals := [Value.pointer (some ⟨p37, 0, none⟩)]) (σ := (List UInt8 × Int × Int × Int × Int × Own × Value)) (fun x w' => (x.1, x.2.1, x.2.2.1, x.2.2.2.1, x.2.2.2.2.1) = p620 ∧ Stp [12, 13] O497 wd534 x.2.2.2.2.2.1 w' ∧ Sl Rep.b w' (imm x.2.2.2.2.2.1) x.2.2.2.2.2.2 x.1 ∧ Blk 12 x.2.2.2.2.2.1 w' p23 107 [x.2.2.2.2.2.2, vi x.2.1, vi x.2.2.1] ∧ Blk 13 x.2.2.2.2.2.1 w' p37 117 [Value.pointer (some ⟨p23, 0, none⟩), vi x.2.2.2.1]) (fun x => vi x.2.2.2.2.1) kok85 rfl rfl ?_ ?_
            ·refine Rets.enter Try.func85 rfl rfl ?_
             refine (show WC _ _ _ _ [(0, Value.pointer (some ⟨p37, 0, none⟩))] _ from ?_)
             refine WC.seq ?_
             refine WC.region ?_
             refine WL.y (Y.assign rfl) rfl ?_
             refine WL.nil ?_
             refine At.then ?_
             refine WC.seq ?_
             refine WC.seq ?_
             refine WC.region ?_
             refine WL.y (Y.move rfl) rfl ?_
             refine WL.y (Y.nilCheck rfl) rfl ?_
             refine WL.y (Y.fieldAddr fo117_1 rfl) rfl ?_
             have hf622 := hb486.st hst535 rfl
             refine WL.y (Y.loadSc ty32 rfl rfl (hf622.cell 1 _ rfl)) rfl ?_
             refine WL.y (Y.neq_i rfl rfl) rfl ?_
             refine WL.nil ?_
             refine At.then ?_
             rcases cnd h with ⟨hc623, h⟩ | ⟨hc623, h⟩
             ·refine WC.condT' rfl hc623 ?_
              refine WC.seq ?_
              refine WC.region ?_
              refine WL.y (Y.assign rfl) rfl ?_
              refine WL.nil ?_
              refine At.then ?_
              refine WC.ret ?_
              refine At.thenR ?_
              have hf624 := hf490.mono (imm_st hst535 rfl rfl)
              have hf625 := hb487.st hst535 rfl
              exact At.res (.inl rfl) rfl (.tmp rfl .nil) ⟨(c488, c491, c492, c493, 0, O497, v489), ⟨some1 h, (Stp.refl _ _ _), hf624, hf625, hf622⟩, rfl⟩
             ·refine WC.condF' rfl hc623 ?_
              refine WC.skip ?_
              refine At.then ?_
              refine WC.seq ?_
              refine WC.region ?_
              refine WL.y (Y.move rfl) rfl ?_
              refine WL.y (Y.nilCheck rfl) rfl ?_
              refine WL.y (Y.fieldAddr fo117_0 rfl) rfl ?_
              refine WL.y (Y.loadSc ty61 rfl rfl (hf622.cell 0 _ rfl)) rfl ?_
              have hf626 := hb487.st hst535 rfl
              have hf627 := hf490.mono (imm_st hst535 rfl rfl)
              obtain ⟨⟨r628, r629, r630⟩, hp631, h⟩ := bnd h
              refine WL.call (vals := [Value.pointer (some ⟨p23, 0, none⟩)]) kok105 rfl rfl (c_vary_GetInt (A := imm O497) (a0 := (bitio_Reader.mk c488 c491 c492)) hf627 hf626.blk (fun k hk => imm_ne hf626.lab rfl k hk) hp631) ?_
              rintro vr637 wd636 ⟨z632, rfl, hm635, f633, f634⟩
              obtain ⟨O638, hold639, hnew640, hst641⟩ := adopt O497 (fun k => 1) [12] hm635 (memB hf626.lab rfl)
              have hf642 : Sl Rep.b wd636 (imm O638) z632 r630.b := Sl.adoptI (O := O497) f633 (fun _ hk => hk) (fun _ _ => Nat.le_refl _) hold639 hnew640
              have hb643 : Blk 12 O638 wd636 p23 107 [z632, vi r630.n, vi r630.at_] := Blk.adopt hf626 hold639 f634
              refine WL.y (Y.move rfl) rfl ?_
              refine WL.y (Y.extract rfl rfl) rfl ?_
              refine WL.y (Y.extract rfl rfl) rfl ?_
              refine WL.y (Y.assign rfl) rfl ?_
              refine WL.y (Y.assign rfl) rfl ?_
              refine WL.nil ?_
              refine At.then ?_
              refine WC.seq ?_
              refine WC.region ?_
              refine WL.y (Y.move rfl) rfl ?_
              refine WL.y (Y.move rfl) rfl ?_
              refine WL.y (Y.nilCheck rfl) rfl ?_
              refine WL.y (Y.fieldAddr fo117_1 rfl) rfl ?_
              have hf644 := hf622.st hst641 rfl
              refine WL.store (v := vi r629) (cells' := [Value.pointer (some ⟨p23, 0, none⟩), vi r629]) ty32 rfl rfl hf644 rfl (Nat.le_of_ble_eq_true rfl) rfl rfl ?_
              intro wd645 hst646 hb647
              refine WL.nil ?_
              refine At.then ?_
              refine WC.seq ?_
              refine WC.region ?_
              refine WL.y (Y.move rfl) rfl ?_
              refine WL.y (Y.assign rfl) rfl ?_
              refine WL.nil ?_
              refine At.then ?_
              refine WC.ret ?_
              have hf648 := hf642.mono (imm_st hst646 rfl rfl)
              have hf649 := hb643.st hst646 rfl
              exact At.res (.inl rfl) rfl (.tmp rfl .nil) ⟨(r630.b, r630.n, r630.at_, r629, r628, O638, z632), ⟨some1 h, (Stp.trans (Stp.up hst641 rfl) (Stp.up hst646 rfl)), hf648, hf649, hb647⟩, rfl⟩
            ·rintro ⟨c609, c612, c613, c615, x616, O617, v610⟩ wd618 ⟨rfl, hst619, hf611, hb608, hb614⟩
             replace h := hk621
             try dsimp only at h hst619 hf611 hb608 hb614
             refine (show WL _ _ _ _ _ ((3, vi x616) :: _) _ from ?_)
             refine WL.y (Y.conv_iu ty3.u ty22.u rfl) rfl ?_
             obtain ⟨t650, ht650, h⟩ := lt1 h
             refine WL.yE (Y.assign rfl) (congrArg vu ht650.symm) rfl ?_
             refine WL.nil ?_
             refine At.then ?_
             refine WC.ret ?_
             exact At.res (.inl rfl) rfl (.tmp rfl .nil) ⟨(c609, c612, c613, c615, t650, O617, v610), ⟨some1 h, (Stp.up hst619 rfl), hf611, hb608, hb614⟩, rfl⟩
           ·rintro ⟨c583, c586, c587, c589, x590, O591, v584⟩ wd592 ⟨rfl, hst593, hf585, hb582, hb588⟩
            replace h := hk595
            try dsimp only at h hst593 hf585 hb582 hb588
            refine (show WL _ _ _ _ _ ((6, vu x590) :: _) _ from ?_)
            refine WL.y (Y.assign rfl) rfl ?_
            refine WL.nil ?_
            refine At.then ?_
            refine WC.seq ?_
            obtain ⟨p652, h, hk653⟩ := bnd h
            refine WC.join (σ := UInt64) (fun x w' => x = p652 ∧ wd592 = w') (fun x => [(1, Value.pointer (some ⟨p295, 0, none⟩)), (4, vu x)]) ?_ ?_
            ·refine WC.seq ?_
             refine WC.region ?_
             have hf654 := hb494.st hst535 rfl
             have hf655 := hf654.st hst593 rfl
             refine WL.y (Y.loadSc ty3 rfl rfl (hf655.cell 0 _ rfl)) rfl ?_
             have hf656 := hb284.st hst293 rfl
             have hf657 := hf656.st hst298 rfl
             have hf658 := hf657.st hst300 rfl
             have hf659 := hf658.st hst315 rfl
             have hf660 := hf659.st hst455 rfl
             have hf661 := hf660.st hst499 rfl
             have hf662 := hf661.st hst535 rfl
             have hf663 := hf662.st hst593 rfl
             refine WL.y (Y.loadSc ty23 rfl rfl (hf663.cell 0 _ rfl)) rfl ?_
             have hf664 := hf258.st hst288 rfl rfl rfl
             have hf665 := hf664.st hst293 rfl rfl rfl
             have hf666 := hf665.st hst298 rfl rfl rfl
             have hf667 := hf666.st hst300 rfl rfl rfl
             have hf668 := hf667.st hst315 rfl rfl rfl
             have hf669 := hf668.st hst455 rfl rfl rfl
             have hf670 := hf669.st hst499 rfl rfl rfl
             have hf671 := hf670.st hst535 rfl rfl rfl
             have hf672 := hf671.st hst593 rfl rfl rfl
             refine WL.y (Y.len ty23 rfl hf672.src.sl) rfl ?_
             refine WL.y (Y.lss_i rfl rfl) rfl ?_
             refine WL.nil ?_
             refine At.then ?_
             rcases cnd h with ⟨hc673, h⟩ | ⟨hc673, h⟩
             ·refine WC.condT' rfl hc673 ?_
              refine WC.region ?_
              refine WL.y (Y.move rfl) rfl ?_
              refine WL.y (Y.loadSc ty23 rfl rfl (hf663.cell 0 _ rfl)) rfl ?_
              refine WL.y (Y.loadSc ty3 rfl rfl (hf655.cell 0 _ rfl)) rfl ?_
              obtain ⟨e674, he674, h⟩ := bnd h
              obtain ⟨b675, cap682, cs681, hv676, hi677, hl678, hc679, hok680⟩ := OwnSl.at hf672 he674
              obtain rfl := hok680
              replace hc679 : CellsAt _ _ _ [vu e674] := hc679
              have hca683 := CAt.own hf672 hv676 hc679
              refine WL.y (Y.indexAddr ty23 ty22 rfl hv676 rfl hi677 hl678) rfl ?_
              refine WL.y (Y.loadSc ty22 rfl rfl hca683.at_) rfl ?_
              refine WL.y (Y.add_u rfl rfl) rfl ?_
              obtain ⟨c684, hc684, h⟩ := lt1 h
              refine WL.yE (Y.assign rfl) (congrArg vu hc684.symm) rfl ?_
              refine WL.nil ?_
              exact At.join (σ := UInt64) c684 ⟨some1 h, rfl⟩ (.cons rfl (.cons rfl .nil))
             ·refine WC.condF' rfl hc673 ?_
              refine WC.skip ?_
              exact At.join (σ := UInt64) x590 ⟨some1 h, rfl⟩ (.cons rfl (.cons rfl .nil))
            ·rintro c651 _ ⟨rfl, rfl⟩
             replace h := hk653
             try dsimp only at h
             refine (show At _ _ _ [(1, Value.pointer (some ⟨p295, 0, none⟩)), (4, vu c651)] _ from ?_)
             refine At.then ?_
             refine WC.seq ?_
             refine WC.region ?_
             have hf685 := hb494.st hst535 rfl
             have hf686 := hf685.st hst593 rfl
             refine WL.y (Y.loadSc ty3 rfl rfl (hf686.cell 0 _ rfl)) rfl ?_
             refine WL.y (Y.add_i rfl rfl) rfl ?_
             obtain ⟨t687, ht687, h⟩ := lt1 h
             refine WL.ren 18 rfl (congrArg vi ht687.symm) ?_
             refine WL.store (v := vi t687) (cells' := [vi t687]) ty3 rfl rfl hf686 rfl (Nat.le_of_ble_eq_true rfl) rfl rfl ?_
             intro wd688 hst689 hb690
             refine WL.nil ?_
             refine At.then ?_
             refine WC.seq ?_
             refine WC.region ?_
             refine WL.y (Y.move rfl) rfl ?_
             refine WL.y (Y.assign rfl) rfl ?_
             refine WL.nil ?_
             refine At.then ?_
             refine WC.ret ?_
             have hf691 := hf585.mono (imm_st hst689 rfl rfl)
             have hf692 := hb582.st hst689 rfl
             have hf693 := hb588.st hst689 rfl
             exact At.res (.inl rfl) rfl (.tmp rfl .nil) ⟨(c583, c586, c587, c589, t687, c651, O591, v584), ⟨some1 h, (Stp.trans (Stp.up hst593 rfl) (Stp.up hst689 rfl)), hf691, hf692, hf693, hb690⟩, rfl⟩
          ·rintro ⟨c562, c565, c566, c567, c569, x570, O571, v563⟩ wd572 ⟨rfl, hst573, hf564, hb561, hb560, hb568⟩
           replace h := hk575
           try dsimp only at h hst573 hf564 hb561 hb560 hb568
           refine (show WL _ _ _ _ _ ((32, vu x570) :: _) _ from ?_)
           refine WL.nil ?_
           refine At.dq (Stp.up hst573 rfl) ?_
           obtain ⟨e694, he694, h⟩ := bnd h
           have hf703 := hf485.st hst535 rfl rfl rfl
           have hf704 := hf703.st hst573 rfl rfl rfl
           obtain ⟨b695, cap702, cs701, hv696, hi697, hl698, hc699, hok700⟩ := OwnSl.at hf704 he694
           obtain rfl := hok700
           replace hc699 : CellsAt _ _ _ [vu e694] := hc699
           have hca705 := CAt.own hf704 hv696 hc699
           refine WD.y 8 rfl (by kernel_rfl) (fun _ _ _ => Y.indexAddr ty23 ty22 rfl hv696 rfl hi697 hl698) rfl ?_
           refine WD.phase [1001] [0, 1, 2, 3, 4, 5, 6, 7, 8, 9] (by kernel_rfl) (by kernel_rfl) ?_
           refine WD.heavy 9 rfl (by kernel_rfl) ?_
           obtain ⟨xs709, hxs709, h⟩ := bnd h
           refine WL.storeOwn (by decide) ty22 rfl rfl rfl hf704 hv696 hxs709 ?_
           intro wd710 hst711 ho712
           refine WL.nil ?_
           refine At.dq (Stp.up hst711 rfl) ?_
           refine WD.done_ (by kernel_rfl) ?_
           refine At.inBlock ?_
           refine At.then ?_
           refine WC.region ?_
           refine WL.y (Y.add_i rfl rfl) rfl ?_
           refine WL.y (Y.move rfl) rfl ?_
           refine WL.nil ?_
           have hf713 := hf564.mono (imm_st hst711 rfl rfl)
           have hf714 := hb561.st hst711 rfl
           have hf715 := hb560.st hst711 rfl
           have hf716 := hb568.st hst711 rfl
           exact At.round (xs709, c562, c565, c566, c567, c569, w64 (x496 + 1), O571, v563) j530 (Nat.lt_succ_self _) ⟨next1 h hn532, (Stp.trans (Stp.up hst499 rfl) (Stp.trans (Stp.up hst535 rfl) (Stp.trans (Stp.up hst573 rfl) (Stp.up hst711 rfl)))), ho712, hf713, hf714, hf715, hf716⟩ (.cons rfl (.cons rfl (.cons rfl (.cons rfl .nil))))
         ·refine WC.condF' rfl hc533 ?_
          refine WC.exit ?_
          refine At.thenX ?_
          refine At.loopX ?_
          obtain ⟨O717, hst718, ho719⟩ := OwnSl.rlb 1002 rfl hf485
          have hf720 := hf490.mono (imm_st hst718 rfl rfl)
          have hf721 := hb487.st hst718 rfl
          have hf722 := hb486.st hst718 rfl
          have hf723 := hb494.st hst718 rfl
          exact At.hitB (σ := (List UInt64 × List UInt8 × Int × Int × Int × Int × Own × Value)) (c483, c488, c491, c492, c493, c495, O717, v489) ⟨brk1 h hn532, (Stp.trans (Stp.up hst499 rfl) (Stp.up hst718 rfl)), ho719, hf720, hf721, hf722, hf723⟩ (.cons rfl (.cons rfl .nil))
        ·rintro ⟨c500, c505, c508, c509, c510, c512, O513, v506⟩ wd514 ⟨rfl, hst515, hf502, hf507, hb504, hb503, hb511⟩
         replace h := flowK_go hk518
         try dsimp only at h hst515 hf502 hf507 hb504 hb503 hb511
         refine (show At _ _ _ [(0, Value.pointer (some ⟨p50, 0, none⟩)), (7, Value.func (.func 104) (List.toArray []) (List.toArray [Value.pointer (some ⟨p290, 0, none⟩), Value.pointer (some ⟨p295, 0, none⟩), Value.pointer (some ⟨p285, 0, none⟩)]))] _ from ?_)
         refine At.inBlockHit ?_
         obtain ⟨O724, hst725, ho726⟩ := OwnSl.rlb 1004 rfl hf502
         have hf727 := hf507.mono (imm_st hst725 rfl rfl)
         have hf728 := hb504.st hst725 rfl
         have hf729 := hb503.st hst725 rfl
         have hf730 := hb511.st hst725 rfl
         exact At.join (σ := (List UInt64 × List UInt8 × Int × Int × Int × Int × Own × Value)) (c500, c505, c508, c509, c510, c512, O724, v506) ⟨some1 h, (Stp.trans (Stp.up hst515 rfl) (Stp.up hst725 rfl)), ho726, hf727, hf728, hf729, hf730⟩ (.cons rfl (.cons rfl .nil))
       ·rintro ⟨c465, c470, c473, c474, c475, c477, O478, v471⟩ wd479 ⟨rfl, hst480, hf467, hf472, hb469, hb468, hb476⟩
        replace h := hk482
        try dsimp only at h hst480 hf467 hf472 hb469 hb468 hb476
        refine (show At _ _ _ [(0, Value.pointer (some ⟨p50, 0, none⟩)), (7, Value.func (.func 104) (List.toArray []) (List.toArray [Value.pointer (some ⟨p290, 0, none⟩), Value.pointer (some ⟨p295, 0, none⟩), Value.pointer (some ⟨p285, 0, none⟩)]))] _ from ?_)
        refine At.then ?_
        refine WC.seq ?_
        refine WC.region ?_
        refine WL.y (Y.move rfl) rfl ?_
        refine WL.y (Y.nilCheck rfl) rfl ?_
        refine WL.y (Y.fieldAddr fo27_3 rfl) rfl ?_
        refine WL.y (Y.fieldAddr fo25_1 rfl) rfl ?_
        have hf731 := hb456.st hst480 rfl
        refine WL.y (Y.loadSc ty23 rfl rfl (hf731.cell 5 _ rfl)) rfl ?_
        have hf732 := hf227.st hst239 rfl rfl rfl
        have hf733 := hf732.st hst257 rfl rfl rfl
        have hf734 := hf733.st hst288 rfl rfl rfl
        have hf735 := hf734.st hst293 rfl rfl rfl
        have hf736 := hf735.st hst298 rfl rfl rfl
        have hf737 := hf736.st hst300 rfl rfl rfl
        have hf738 := hf737.st hst315 rfl rfl rfl
        have hf739 := hf738.st hst455 rfl rfl rfl
        have hf740 := hf739.st hst480 rfl rfl rfl
        refine WL.y (Y.len ty23 rfl hf740.src.sl) rfl ?_
        refine WL.y (Y.move rfl) rfl ?_
        refine WL.nil ?_
        refine At.then ?_
        refine WC.block ?_
        obtain ⟨p772, h, hk774⟩ := flow1 h
        obtain ⟨k773, h⟩ := loop_some h
        refine WC.joinB 2 (σ := (List UInt8 × Int × Int × Int × List UInt64 × Own × Value)) (fun x w' => p772 = .go (x.1, x.2.1, x.2.2.1, x.2.2.2.1, x.2.2.2.2.1) ∧ Stp [12, 13, 17, 21, 1005] O478 wd479 x.2.2.2.2.2.1 w' ∧ Sl Rep.b w' (imm x.2.2.2.2.2.1) x.2.2.2.2.2.2 x.1 ∧ Blk 12 x.2.2.2.2.2.1 w' p23 107 [x.2.2.2.2.2.2, vi x.2.1, vi x.2.2.1] ∧ Blk 13 x.2.2.2.2.2.1 w' p37 117 [Value.pointer (some ⟨p23, 0, none⟩), vi x.2.2.2.1] ∧ OwnSl 1006 Rep.u 22 x.2.2.2.2.2.1 w' (Value.slice p232 m233 c234) x.2.2.2.2.1) (fun x => []) ?_ ?_
        ·obtain ⟨O775, hst776, ho777⟩ := OwnSl.rlb 1005 rfl hf740
         have hf778 := hf472.mono (imm_st hst776 rfl rfl)
         have hf779 := hb469.st hst776 rfl
         have hf780 := hb468.st hst776 rfl
         have hf781 := hb476.st hst776 rfl
         refine WC.loop (σ := (List UInt64 × List UInt8 × Int × Int × Int × Int × Int × Own × Value)) (fun x k w' => loopN k (histbits_Row_Get_lp2 r212 r247) (x.1, x.2.1, x.2.2.1, x.2.2.2.1, x.2.2.2.2.1, x.2.2.2.2.2.1, x.2.2.2.2.2.2.1) = some p772 ∧ Stp [12, 13, 17, 21, 1005] O478 wd479 x.2.2.2.2.2.2.2.1 w' ∧ OwnSl 1005 Rep.u 22 x.2.2.2.2.2.2.2.1 w' (Value.slice p232 m233 c234) x.1 ∧ Sl Rep.b w' (imm x.2.2.2.2.2.2.2.1) x.2.2.2.2.2.2.2.2 x.2.1 ∧ Blk 12 x.2.2.2.2.2.2.2.1 w' p23 107 [x.2.2.2.2.2.2.2.2, vi x.2.2.1, vi x.2.2.2.1] ∧ Blk 13 x.2.2.2.2.2.2.2.1 w' p37 117 [Value.pointer (some ⟨p23, 0, none⟩), vi x.2.2.2.2.1] ∧ Blk 21 x.2.2.2.2.2.2.2.1 w' p295 3 [vi x.2.2.2.2.2.1]) (fun x => [(0, Value.pointer (some ⟨p50, 0, none⟩)), (7, Value.func (.func 104) (List.toArray []) (List.toArray [Value.pointer (some ⟨p290, 0, none⟩), Value.pointer (some ⟨p295, 0, none⟩), Value.pointer (some ⟨p285, 0, none⟩)])), (40, vi (r212.Neg.Counts.length : Int)), (41, vi x.2.2.2.2.2.2.1)]) (r212.Neg.Counts, c470, c473, c474, c475, c477, 0, O775, v471) k773 (.cons rfl (.cons rfl (.cons rfl (.cons rfl .nil)))) ⟨h, (Stp.up hst776 rfl), ho777, hf778, hf779, hf780, hf781⟩ ?_
         rintro ⟨c741, c746, c749, c750, c751, c753, x754, O755, v747⟩ k773 wd756 ⟨h, hst757, hf743, hf748, hb745, hb744, hb752⟩
         obtain ⟨j782, q783, rfl, h, hn784⟩ := rnd1 h
         unfold histbits_Row_Get_lp2 at h
         try dsimp only at h hst757 hf743 hf748 hb745 hb744 hb752
         refine (show WC _ _ _ _ [(0, Value.pointer (some ⟨p50, 0, none⟩)), (7, Value.func (.func 104) (List.toArray []) (List.toArray [Value.pointer (some ⟨p290, 0, none⟩), Value.pointer (some ⟨p295, 0, none⟩), Value.pointer (some ⟨p285, 0, none⟩)])), (40, vi (r212.Neg.Counts.length : Int)), (41, vi x754)] _ from ?_)
         refine WC.seq ?_
         refine WC.region ?_
         refine WL.y (Y.lss_i rfl rfl) rfl ?_
         refine WL.nil ?_
         refine At.then ?_
         refine WC.seq ?_
         rcases cnd h with ⟨hc785, h⟩ | ⟨hc785, h⟩
         ·refine WC.condT' rfl hc785 ?_
          refine WC.skip ?_
          refine At.then ?_
          refine WC.seq ?_
          refine WC.block ?_
          refine WC.seq ?_
          refine WC.region ?_
          refine WL.y (Y.move rfl) rfl ?_
          refine WL.y (Y.assign rfl) rfl ?_
          refine WL.nil ?_
          refine At.then ?_
          refine WC.drawH [12, 13, 21] [0, 1, 2, 3, 4, 5, 6, 7, 8] O755 10 fmix rfl (by kernel_rfl) ?_
          intro wd786 hst787
          refine WD.y 0 rfl (by kernel_rfl) (fun _ _ _ => Y.move rfl) rfl ?_
          refine WD.y 1 rfl (by kernel_rfl) (fun _ _ _ => Y.nilCheck rfl) rfl ?_
          refine WD.y 2 rfl (by kernel_rfl) (fun _ _ _ => Y.fieldAddr fo27_3 rfl) rfl ?_
          refine WD.y 3 rfl (by kernel_rfl) (fun _ _ _ => Y.fieldAddr fo25_1 rfl) rfl ?_
          refine WD.y 4 rfl (by kernel_rfl) (fun wd801 O800 hst802 => have hf803 := hf731.st hst757 rfl; have hf804 := hf803.st hst787 rfl; have hf805 := hf804.st hst802 rfl; Y.loadSc ty23 rfl rfl (hf805.cell 5 _ rfl)) rfl ?_
          refine WD.y 5 rfl (by kernel_rfl) (fun _ _ _ => Y.move rfl) rfl ?_
          refine WD.y 6 rfl (by kernel_rfl) (fun _ _ _ => Y.move rfl) rfl ?_
          refine WD.heavy 7 rfl (by kernel_rfl) ?_
          obtain ⟨p826, h, hk827⟩ := bnd h
          refine WL.callV (fv := []) (cv := [Value.pointer (some ⟨p290, 0, none⟩), Value.pointer (some ⟨p295, 0, none⟩), Value.pointer (some ⟨p285, 0, none⟩)]) (vals := []) (σ := (List UInt8 × Int × Int × Int × Int × UInt64 × Own × Value)) (fun x w' => (x.1, x.2.1, x.2.2.1, x.2.2.2.1, x.2.2.2.2.1, x.2.2.2.2.2.1) = p826 ∧ Stp [12, 13, 21] O755 wd786 x.2.2.2.2.2.2.1 w' ∧ Sl Rep.b w' (imm x.2.2.2.2.2.2.1) x.2.2.2.2.2.2.2 x.1 ∧ Blk 12 x.2.2.2.2.2.2.1 w' p23 107 [x.2.2.2.2.2.2.2, vi x.2.1, vi x.2.2.1] ∧ Blk 13 x.2.2.2.2.2.2.1 w' p37 117 [Value.pointer (some ⟨p23, 0, none⟩), vi x.2.2.2.1] ∧ Blk 21 x.2.2.2.2.2.2.1 w' p295 3 [vi x.2.2.2.2.1]) (fun x => vu x.2.2.2.2.2.1) kok104 rfl rfl rfl ?_ ?_
          ·refine Rets.enter Try.func104 rfl rfl ?_
           refine (show WC _ _ _ _ [(0, Value.pointer (some ⟨p290, 0, none⟩)), (1, Value.pointer (some ⟨p295, 0, none⟩)), (2, Value.pointer (some ⟨p285, 0, none⟩))] _ from ?_)
           refine WC.seq ?_
           refine WC.region ?_
           refine WL.y (Y.assign (v := vu 0) rfl) rfl ?_
           refine WL.nil ?_
           refine At.then ?_
           refine WC.seq ?_
           refine WC.region ?_
           have hf828 := hb289.st hst298 rfl
           have hf829 := hf828.st hst300 rfl
           have hf830 := hf829.st hst315 rfl
           have hf831 := hf830.st hst455 rfl
           have hf832 := hf831.st hst480 rfl
           have hf833 := hf832.st hst757 rfl
           have hf834 := hf833.st hst787 rfl
           refine WL.y (Y.loadSc ty113 rfl rfl (hf834.cell 0 _ rfl)) rfl ?_
           obtain ⟨p847, h, hk848⟩ := bnd h
           refine WL.callV (fv := []) (cv := [Value.pointer (some ⟨p42, 0, none⟩)]) (vals := []) (σ := (List UInt8 × Int × Int × Int × UInt64 × Own × Value)) (fun x w' => (x.1, x.2.1, x.2.2.1, x.2.2.2.1, x.2.2.2.2.1) = p847 ∧ Stp [12, 13] O755 wd786 x.2.2.2.2.2.1 w' ∧ Sl Rep.b w' (imm x.2.2.2.2.2.1) x.2.2.2.2.2.2 x.1 ∧ Blk 12 x.2.2.2.2.2.1 w' p23 107 [x.2.2.2.2.2.2, vi x.2.1, vi x.2.2.1] ∧ Blk 13 x.2.2.2.2.2.1 w' p37 117 [Value.pointer (some ⟨p23, 0, none⟩), vi x.2.2.2.1]) (fun x => vu x.2.2.2.2.1) kok84 rfl rfl rfl ?_ ?_
           ·refine Rets.enter Try.func84 rfl rfl ?_
            refine (show WC _ _ _ _ [(0, Value.pointer (some ⟨p42, 0, none⟩))] _ from ?_)
            refine WC.seq ?_
            refine WC.region ?_
            refine WL.y (Y.assign (v := vu 0) rfl) rfl ?_
            refine WL.nil ?_
            refine At.then ?_
            refine WC.seq ?_
            refine WC.region ?_
            have hf849 := hf78.st hst90 rfl
            have hf850 := hf849.st hst225 rfl
            have hf851 := hf850.st hst239 rfl
            have hf852 := hf851.st hst257 rfl
            have hf853 := hf852.st hst288 rfl
            have hf854 := hf853.st hst293 rfl
            have hf855 := hf854.st hst298 rfl
            have hf856 := hf855.st hst300 rfl
            have hf857 := hf856.st hst315 rfl
            have hf858 := hf857.st hst455 rfl
            have hf859 := hf858.st hst480 rfl
            have hf860 := hf859.st hst757 rfl
            have hf861 := hf860.st hst787 rfl
            refine WL.y (Y.loadSc ty115 rfl rfl (hf861.cell 0 _ rfl)) rfl ?_
            obtain ⟨p874, h, hk875⟩ := bnd h
            refine WL.callJ (vals := [Value.pointer (some ⟨p37, 0, none⟩)]) (σ := (List UInt8 × Int × Int × Int × Int × Own × Value)) (fun x w' => (x.1, x.2.1, x.2.2.1, x.2.2.2.1, x.2.2.2.2.1) = p874 ∧ Stp [12, 13] O755 wd786 x.2.2.2.2.2.1 w' ∧ Sl Rep.b w' (imm x.2.2.2.2.2.1) x.2.2.2.2.2.2 x.1 ∧ Blk 12 x.2.2.2.2.2.1 w' p23 107 [x.2.2.2.2.2.2, vi x.2.1, vi x.2.2.1] ∧ Blk 13 x.2.2.2.2.2.1 w' p37 117 [Value.pointer (some ⟨p23, 0, none⟩), vi x.2.2.2.1]) (fun x => vi x.2.2.2.2.1) kok85 rfl rfl ?_ ?_
            ·refine Rets.enter Try.func85 rfl rfl ?_
             refine (show WC _ _ _ _ [(0, Value.pointer (some ⟨p37, 0, none⟩))] _ from ?_)
             refine WC.seq ?_
             refine WC.region ?_
             refine WL.y (Y.assign rfl) rfl ?_
             refine WL.nil ?_
             refine At.then ?_
             refine WC.seq ?_
             refine WC.seq ?_
             refine WC.region ?_
             refine WL.y (Y.move rfl) rfl ?_
             refine WL.y (Y.nilCheck rfl) rfl ?_
             refine WL.y (Y.fieldAddr fo117_1 rfl) rfl ?_
             have hf876 := hb744.st hst787 rfl
             refine WL.y (Y.loadSc ty32 rfl rfl (hf876.cell 1 _ rfl)) rfl ?_
             refine WL.y (Y.neq_i rfl rfl) rfl ?_
             refine WL.nil ?_
             refine At.then ?_
             rcases cnd h with ⟨hc877, h⟩ | ⟨hc877, h⟩
             ·refine WC.condT' rfl hc877 ?_
              refine WC.seq ?_
              refine WC.region ?_
              refine WL.y (Y.assign rfl) rfl ?_
              refine WL.nil ?_
              refine At.then ?_
              refine WC.ret ?_
              refine At.thenR ?_
              have hf878 := hf748.mono (imm_st hst787 rfl rfl)
              have hf879 := hb745.st hst787 rfl
              exact At.res (.inl rfl) rfl (.tmp rfl .nil) ⟨(c746, c749, c750, c751, 0, O755, v747), ⟨some1 h, (Stp.refl _ _ _), hf878, hf879, hf876⟩, rfl⟩
             ·refine WC.condF' rfl hc877 ?_
              refine WC.skip ?_
              refine At.then ?_
              refine WC.seq ?_
              refine WC.region ?_
              refine WL.y (Y.move rfl) rfl ?_
              refine WL.y (Y.nilCheck rfl) rfl ?_
              refine WL.y (Y.fieldAddr fo117_0 rfl) rfl ?_
              refine WL.y (Y.loadSc ty61 rfl rfl (hf876.cell 0 _ rfl)) rfl ?_
              have hf880 := hb745.st hst787 rfl
              have hf881 := hf748.mono (imm_st hst787 rfl rfl)
              obtain ⟨⟨r882, r883, r884⟩, hp885, h⟩ := bnd h
              refine WL.call (vals := [Value.pointer (some ⟨p23, 0, none⟩)]) kok105 rfl rfl (c_vary_GetInt (A := imm O755) (a0 := (bitio_Reader.mk c746 c749 c750)) hf881 hf880.blk (fun k hk => imm_ne hf880.lab rfl k hk) hp885) ?_
              rintro vr891 wd890 ⟨z886, rfl, hm889, f887, f888⟩
              obtain ⟨O892, hold893, hnew894, hst895⟩ := adopt O755 (fun k => 1) [12] hm889 (memB hf880.lab rfl)
              have hf896 : Sl Rep.b wd890 (imm O892) z886 r884.b := Sl.adoptI (O := O755) f887 (fun _ hk => hk) (fun _ _ => Nat.le_refl _) hold893 hnew894
              have hb897 : Blk 12 O892 wd890 p23 107 [z886, vi r884.n, vi r884.at_] := Blk.adopt hf880 hold893 f888
              refine WL.y (Y.move rfl) rfl ?_
              refine WL.y (Y.extract rfl rfl) rfl ?_
              refine WL.y (Y.extract rfl rfl) rfl ?_
              refine WL.y (Y.assign rfl) rfl ?_
              refine WL.y (Y.assign rfl) rfl ?_
              refine WL.nil ?_
              refine At.then ?_
              refine WC.seq ?_
              refine WC.region ?_
              refine WL.y (Y.move rfl) rfl ?_
              refine WL.y (Y.move rfl) rfl ?_
              refine WL.y (Y.nilCheck rfl) rfl ?_
              refine WL.y (Y.fieldAddr fo117_1 rfl) rfl ?_
              have hf898 := hf876.st hst895 rfl
              refine WL.store (v := vi r883) (cells' := [Value.pointer (some ⟨p23, 0, none⟩), vi r883]) ty32 rfl rfl hf898 rfl (Nat.le_of_ble_eq_true rfl) rfl rfl ?_
              intro wd899 hst900 hb901
              refine WL.nil ?_
              refine At.then ?_
              refine WC.seq ?_
              refine WC.region ?_
              refine WL.y (Y.move rfl) rfl ?_
              refine WL.y (Y.assign rfl) rfl ?_
              refine WL.nil ?_
              refine At.then ?_
              refine WC.ret ?_
              have hf902 := hf896.mono (imm_st hst900 rfl rfl)
              have hf903 := hb897.st hst900 rfl
              exact At.res (.inl rfl) rfl (.tmp rfl .nil) ⟨(r884.b, r884.n, r884.at_, r883, r882, O892, z886), ⟨some1 h, (Stp.trans (Stp.up hst895 rfl) (Stp.up hst900 rfl)), hf902, hf903, hb901⟩, rfl⟩
            ·rintro ⟨c863, c866, c867, c869, x870, O871, v864⟩ wd872 ⟨rfl, hst873, hf865, hb862, hb868⟩
             replace h := hk875
             try dsimp only at h hst873 hf865 hb862 hb868
             refine (show WL _ _ _ _ _ ((3, vi x870) :: _) _ from ?_)
             refine WL.y (Y.conv_iu ty3.u ty22.u rfl) rfl ?_
             obtain ⟨t904, ht904, h⟩ := lt1 h
             refine WL.yE (Y.assign rfl) (congrArg vu ht904.symm) rfl ?_
             refine WL.nil ?_
             refine At.then ?_
             refine WC.ret ?_
             exact At.res (.inl rfl) rfl (.tmp rfl .nil) ⟨(c863, c866, c867, c869, t904, O871, v864), ⟨some1 h, (Stp.up hst873 rfl), hf865, hb862, hb868⟩, rfl⟩
           ·rintro ⟨c836, c839, c840, c842, x843, O844, v837⟩ wd845 ⟨rfl, hst846, hf838, hb835, hb841⟩
            replace h := hk848
            try dsimp only at h hst846 hf838 hb835 hb841
            refine (show WL _ _ _ _ _ ((6, vu x843) :: _) _ from ?_)
            refine WL.y (Y.assign rfl) rfl ?_
            refine WL.nil ?_
            refine At.then ?_
            refine WC.seq ?_
            obtain ⟨p906, h, hk907⟩ := bnd h
            refine WC.join (σ := UInt64) (fun x w' => x = p906 ∧ wd845 = w') (fun x => [(1, Value.pointer (some ⟨p295, 0, none⟩)), (4, vu x)]) ?_ ?_
            ·refine WC.seq ?_
             refine WC.region ?_
             have hf908 := hb752.st hst787 rfl
             have hf909 := hf908.st hst846 rfl
             refine WL.y (Y.loadSc ty3 rfl rfl (hf909.cell 0 _ rfl)) rfl ?_
             have hf910 := hb284.st hst293 rfl
             have hf911 := hf910.st hst298 rfl
             have hf912 := hf911.st hst300 rfl
             have hf913 := hf912.st hst315 rfl
             have hf914 := hf913.st hst455 rfl
             have hf915 := hf914.st hst480 rfl
             have hf916 := hf915.st hst757 rfl
             have hf917 := hf916.st hst787 rfl
             have hf918 := hf917.st hst846 rfl
             refine WL.y (Y.loadSc ty23 rfl rfl (hf918.cell 0 _ rfl)) rfl ?_
             have hf919 := hf258.st hst288 rfl rfl rfl
             have hf920 := hf919.st hst293 rfl rfl rfl
             have hf921 := hf920.st hst298 rfl rfl rfl
             have hf922 := hf921.st hst300 rfl rfl rfl
             have hf923 := hf922.st hst315 rfl rfl rfl
             have hf924 := hf923.st hst455 rfl rfl rfl
             have hf925 := hf924.st hst480 rfl rfl rfl
             have hf926 := hf925.st hst757 rfl rfl rfl
             have hf927 := hf926.st hst787 rfl rfl rfl
             have hf928 := hf927.st hst846 rfl rfl rfl
             refine WL.y (Y.len ty23 rfl hf928.src.sl) rfl ?_
             refine WL.y (Y.lss_i rfl rfl) rfl ?_
             refine WL.nil ?_
             refine At.then ?_
             rcases cnd h with ⟨hc929, h⟩ | ⟨hc929, h⟩
             ·refine WC.condT' rfl hc929 ?_
              refine WC.region ?_
              refine WL.y (Y.move rfl) rfl ?_
              refine WL.y (Y.loadSc ty23 rfl rfl (hf918.cell 0 _ rfl)) rfl ?_
              refine WL.y (Y.loadSc ty3 rfl rfl (hf909.cell 0 _ rfl)) rfl ?_
              obtain ⟨e930, he930, h⟩ := bnd h
              obtain ⟨b931, cap938, cs937, hv932, hi933, hl934, hc935, hok936⟩ := OwnSl.at hf928 he930
              obtain rfl := hok936
              replace hc935 : CellsAt _ _ _ [vu e930] := hc935
              have hca939 := CAt.own hf928 hv932 hc935
              refine WL.y (Y.indexAddr ty23 ty22 rfl hv932 rfl hi933 hl934) rfl ?_
              refine WL.y (Y.loadSc ty22 rfl rfl hca939.at_) rfl ?_
              refine WL.y (Y.add_u rfl rfl) rfl ?_
              obtain ⟨c940, hc940, h⟩ := lt1 h
              refine WL.yE (Y.assign rfl) (congrArg vu hc940.symm) rfl ?_
              refine WL.nil ?_
              exact At.join (σ := UInt64) c940 ⟨some1 h, rfl⟩ (.cons rfl (.cons rfl .nil))
             ·refine WC.condF' rfl hc929 ?_
              refine WC.skip ?_
              exact At.join (σ := UInt64) x843 ⟨some1 h, rfl⟩ (.cons rfl (.cons rfl .nil))
            ·rintro c905 _ ⟨rfl, rfl⟩
             replace h := hk907
             try dsimp only at h
             refine (show At _ _ _ [(1, Value.pointer (some ⟨p295, 0, none⟩)), (4, vu c905)] _ from ?_)
             refine At.then ?_
             refine WC.seq ?_
             refine WC.region ?_
             have hf941 := hb752.st hst787 rfl
             have hf942 := hf941.st hst846 rfl
             refine WL.y (Y.loadSc ty3 rfl rfl (hf942.cell 0 _ rfl)) rfl ?_
             refine WL.y (Y.add_i rfl rfl) rfl ?_
             obtain ⟨t943, ht943, h⟩ := lt1 h
             refine WL.ren 18 rfl (congrArg vi ht943.symm) ?_
             refine WL.store (v := vi t943) (cells' := [vi t943]) ty3 rfl rfl hf942 rfl (Nat.le_of_ble_eq_true rfl) rfl rfl ?_
             intro wd944 hst945 hb946
             refine WL.nil ?_
             refine At.then ?_
             refine WC.seq ?_
             refine WC.region ?_
             refine WL.y (Y.move rfl) rfl ?_
             refine WL.y (Y.assign rfl) rfl ?_
             refine WL.nil ?_
             refine At.then ?_
             refine WC.ret ?_
             have hf947 := hf838.mono (imm_st hst945 rfl rfl)
             have hf948 := hb835.st hst945 rfl
             have hf949 := hb841.st hst945 rfl
             exact At.res (.inl rfl) rfl (.tmp rfl .nil) ⟨(c836, c839, c840, c842, t943, c905, O844, v837), ⟨some1 h, (Stp.trans (Stp.up hst846 rfl) (Stp.up hst945 rfl)), hf947, hf948, hf949, hb946⟩, rfl⟩
          ·rintro ⟨c814, c817, c818, c819, c821, x822, O823, v815⟩ wd824 ⟨rfl, hst825, hf816, hb813, hb812, hb820⟩
           replace h := hk827
           try dsimp only at h hst825 hf816 hb813 hb812 hb820
           refine (show WL _ _ _ _ _ ((51, vu x822) :: _) _ from ?_)
           refine WL.nil ?_
           refine At.dq (Stp.up hst825 rfl) ?_
           obtain ⟨e950, he950, h⟩ := bnd h
           have hf959 := hf743.st hst787 rfl rfl rfl
           have hf960 := hf959.st hst825 rfl rfl rfl
           obtain ⟨b951, cap958, cs957, hv952, hi953, hl954, hc955, hok956⟩ := OwnSl.at hf960 he950
           obtain rfl := hok956
           replace hc955 : CellsAt _ _ _ [vu e950] := hc955
           have hca961 := CAt.own hf960 hv952 hc955
           refine WD.y 8 rfl (by kernel_rfl) (fun _ _ _ => Y.indexAddr ty23 ty22 rfl hv952 rfl hi953 hl954) rfl ?_
           refine WD.phase [1005] [0, 1, 2, 3, 4, 5, 6, 7, 8, 9] (by kernel_rfl) (by kernel_rfl) ?_
           refine WD.heavy 9 rfl (by kernel_rfl) ?_
           obtain ⟨xs965, hxs965, h⟩ := bnd h
           refine WL.storeOwn (by decide) ty22 rfl rfl rfl hf960 hv952 hxs965 ?_
           intro wd966 hst967 ho968
           refine WL.nil ?_
           refine At.dq (Stp.up hst967 rfl) ?_
           refine WD.done_ (by kernel_rfl) ?_
           refine At.inBlock ?_
           refine At.then ?_
           refine WC.region ?_
           refine WL.y (Y.add_i rfl rfl) rfl ?_
           refine WL.y (Y.move rfl) rfl ?_
           refine WL.nil ?_
           have hf969 := hf816.mono (imm_st hst967 rfl rfl)
           have hf970 := hb813.st hst967 rfl
           have hf971 := hb812.st hst967 rfl
           have hf972 := hb820.st hst967 rfl
           exact At.round (xs965, c814, c817, c818, c819, c821, w64 (x754 + 1), O823, v815) j782 (Nat.lt_succ_self _) ⟨next1 h hn784, (Stp.trans (Stp.up hst757 rfl) (Stp.trans (Stp.up hst787 rfl) (Stp.trans (Stp.up hst825 rfl) (Stp.up hst967 rfl)))), ho968, hf969, hf970, hf971, hf972⟩ (.cons rfl (.cons rfl (.cons rfl (.cons rfl .nil))))
         ·refine WC.condF' rfl hc785 ?_
          refine WC.exit ?_
          refine At.thenX ?_
          refine At.loopX ?_
          obtain ⟨O973, hst974, ho975⟩ := OwnSl.rlb 1006 rfl hf743
          have hf976 := hf748.mono (imm_st hst974 rfl rfl)
          have hf977 := hb745.st hst974 rfl
          have hf978 := hb744.st hst974 rfl
          exact At.hitB (σ := (List UInt8 × Int × Int × Int × List UInt64 × Own × Value)) (c746, c749, c750, c751, c741, O973, v747) ⟨brk1 h hn784, (Stp.trans (Stp.up hst757 rfl) (Stp.up hst974 rfl)), hf976, hf977, hf978, ho975⟩ .nil
        ·rintro ⟨c759, c762, c763, c765, c766, O769, v760⟩ wd770 ⟨rfl, hst771, hf761, hb758, hb764, hf768⟩
         replace h := flowK_go hk774
         try dsimp only at h hst771 hf761 hb758 hb764 hf768
         refine (show At _ _ _ [] _ from ?_)
         refine At.inBlockHit ?_
         have hf979 := hf467.st hst771 rfl rfl rfl
         obtain ⟨O980, hst981, ho982⟩ := OwnSl.rlb 1010 rfl hf979
         have hf983 := hf768.st hst981 rfl rfl rfl
         obtain ⟨O984, hst985, ho986⟩ := OwnSl.rlb 1011 rfl hf983
         have hf987 := hf761.mono (imm_st hst981 rfl rfl)
         have hf988 := hf987.mono (imm_st hst985 rfl rfl)
         have hf989 := hb758.st hst981 rfl
         have hf990 := hf989.st hst985 rfl
         have hf991 := hb764.st hst981 rfl
         have hf992 := hf991.st hst985 rfl
         have hf993 := ho982.st hst985 rfl rfl rfl
         have hf994 := hf731.st hst771 rfl
         have hf995 := hf994.st hst981 rfl
         have hf996 := hf995.st hst985 rfl
         exact At.res (.inr rfl) rfl .nil ⟨(c759, c762, c763, c765, x312, c465, c766, O984, v760), ⟨some1 h, (Stp.trans (Stp.up hst288 rfl) (Stp.trans (Stp.up hst293 rfl) (Stp.trans (Stp.up hst298 rfl) (Stp.trans (Stp.up hst300 rfl) (Stp.trans (Stp.up hst315 rfl) (Stp.trans (Stp.up hst455 rfl) (Stp.trans (Stp.up hst480 rfl) (Stp.trans (Stp.up hst771 rfl) (Stp.trans (Stp.up hst981 rfl) (Stp.up hst985 rfl)))))))))), hf988, hf990, hf992, hf993, ho986, hf996⟩, rfl⟩
     ·rintro ⟨c260, c263, c264, c266, c268, c269, c272, O275, v261⟩ wd276 ⟨rfl, hst277, hf262, hb259, hb265, hf271, hf274, hb267⟩
      replace h := hk279
      try dsimp only at h hst277 hf262 hb259 hb265 hf271 hf274 hb267
      refine (show WL _ _ _ _ _ ((34, Value.tuple (List.toArray [])) :: _) _ from ?_)
      refine WL.nil ?_
      obtain ⟨O997, hst998, ho999⟩ := OwnSl.rlb 1045 rfl hf271
      have hf1000 := hf274.st hst998 rfl rfl rfl
      obtain ⟨O1001, hst1002, ho1003⟩ := OwnSl.rlb 1046 rfl hf1000
      have hf1004 := hf262.mono (imm_st hst998 rfl rfl)
      have hf1005 := hf1004.mono (imm_st hst1002 rfl rfl)
      have hf1006 := hb259.st hst998 rfl
      have hf1007 := hf1006.st hst1002 rfl
      have hf1008 := hb265.st hst998 rfl
      have hf1009 := hf1008.st hst1002 rfl
      have hf1010 := ho999.st hst1002 rfl rfl rfl
      have hf1011 := hb267.st hst998 rfl
      have hf1012 := hf1011.st hst1002 rfl
      exact At.join (σ := (List UInt8 × Int × Int × Int × Int × UInt64 × Int × List UInt64 × Int × List UInt64 × Own × Value × Value × Value)) (c260, c263, c264, c266, r212.Scale, c268, r212.Pos.Offset, c269, r212.Neg.Offset, c272, O1001, v261, (Value.slice p228 m229 c230), (Value.slice p232 m233 c234)) ⟨go2 h, (Stp.trans (Stp.up hst90 rfl) (Stp.trans (Stp.up hst225 rfl) (Stp.trans (Stp.up hst239 rfl) (Stp.trans (Stp.up hst257 rfl) (Stp.trans (Stp.up hst277 rfl) (Stp.trans (Stp.up hst998 rfl) (Stp.up hst1002 rfl))))))), hf1005, hf1007, hf1009, hf1010, ho1003, hf1012⟩ (.cons rfl (.cons rfl (.cons rfl (.cons rfl (.cons rfl (.cons rfl .nil))))))
   ·refine WC.condF' rfl hc141 ?_
    refine WC.seq ?_
    refine WC.region ?_
    have hf1013 := hf78.st hst90 rfl
    refine WL.y (Y.loadSc ty115 rfl rfl (hf1013.cell 0 _ rfl)) rfl ?_
    obtain ⟨p1026, h, hk1027⟩ := bnd h
    refine WL.callJ (vals := [Value.pointer (some ⟨p37, 0, none⟩), vi 5]) (σ := (List UInt8 × Int × Int × Int × Int × Own × Value)) (fun x w' => (x.1, x.2.1, x.2.2.1, x.2.2.2.1, x.2.2.2.2.1) = p1026 ∧ Stp [12, 13] O88 wd89 x.2.2.2.2.2.1 w' ∧ Sl Rep.b w' (imm x.2.2.2.2.2.1) x.2.2.2.2.2.2 x.1 ∧ Blk 12 x.2.2.2.2.2.1 w' p23 107 [x.2.2.2.2.2.2, vi x.2.1, vi x.2.2.1] ∧ Blk 13 x.2.2.2.2.2.1 w' p37 117 [Value.pointer (some ⟨p23, 0, none⟩), vi x.2.2.2.1]) (fun x => vi x.2.2.2.2.1) kok82 rfl rfl ?_ ?_
    ·refine Rets.enter Try.func82 rfl rfl ?_
     refine (show WC _ _ _ _ [(0, Value.pointer (some ⟨p37, 0, none⟩)), (1, vi 5)] _ from ?_)
     refine WC.seq ?_
     refine WC.region ?_
     refine WL.y (Y.assign rfl) rfl ?_
     refine WL.nil ?_
     refine At.then ?_
     refine WC.seq ?_
     refine WC.seq ?_
     refine WC.region ?_
     refine WL.y (Y.move rfl) rfl ?_
     refine WL.y (Y.nilCheck rfl) rfl ?_
     refine WL.y (Y.fieldAddr fo117_1 rfl) rfl ?_
     refine WL.y (Y.loadSc ty32 rfl rfl (hb85.cell 1 _ rfl)) rfl ?_
     refine WL.y (Y.neq_i rfl rfl) rfl ?_
     refine WL.nil ?_
     refine At.then ?_
     rcases cnd h with ⟨hc1028, h⟩ | ⟨hc1028, h⟩
     ·refine WC.condT' rfl hc1028 ?_
      refine WC.seq ?_
      refine WC.region ?_
      refine WL.y (Y.assign rfl) rfl ?_
      refine WL.nil ?_
      refine At.then ?_
      refine WC.ret ?_
      refine At.thenR ?_
      exact At.res (.inl rfl) rfl (.tmp rfl .nil) ⟨(c80, c83, c84, c86, 0, O88, v81), ⟨some1 h, (Stp.refl _ _ _), hf82, hb79, hb85⟩, rfl⟩
     ·refine WC.condF' rfl hc1028 ?_
      refine WC.skip ?_
      refine At.then ?_
      refine WC.seq ?_
      refine WC.region ?_
      refine WL.y (Y.move rfl) rfl ?_
      refine WL.y (Y.nilCheck rfl) rfl ?_
      refine WL.y (Y.fieldAddr fo117_0 rfl) rfl ?_
      refine WL.y (Y.loadSc ty61 rfl rfl (hb85.cell 0 _ rfl)) rfl ?_
      refine WL.y (Y.move rfl) rfl ?_
      obtain ⟨⟨r1029, r1030, r1031⟩, hp1032, h⟩ := bnd h
      refine WL.call (vals := [Value.pointer (some ⟨p23, 0, none⟩), vi 5]) kok103 rfl rfl (c_bitio_Reader_Take (A := imm O88) (a0 := (bitio_Reader.mk c80 c83 c84)) hf82 hb79.blk (fun k hk => imm_ne hb79.lab rfl k hk) hp1032) ?_
      rintro vr1038 wd1037 ⟨z1033, rfl, hm1036, f1034, f1035⟩
      obtain ⟨O1039, hold1040, hnew1041, hst1042⟩ := adopt O88 (fun k => 1) [12] hm1036 (memB hb79.lab rfl)
      have hf1043 : Sl Rep.b wd1037 (imm O1039) z1033 r1031.b := Sl.adoptI (O := O88) f1034 (fun _ hk => hk) (fun _ _ => Nat.le_refl _) hold1040 hnew1041
      have hb1044 : Blk 12 O1039 wd1037 p23 107 [z1033, vi r1031.n, vi r1031.at_] := Blk.adopt hb79 hold1040 f1035
      refine WL.y (Y.move rfl) rfl ?_
      refine WL.y (Y.extract rfl rfl) rfl ?_
      refine WL.y (Y.extract rfl rfl) rfl ?_
      refine WL.y (Y.assign rfl) rfl ?_
      refine WL.y (Y.assign rfl) rfl ?_
      refine WL.nil ?_
      refine At.then ?_
      refine WC.seq ?_
      refine WC.seq ?_
      refine WC.region ?_
      refine WL.y (Y.move rfl) rfl ?_
      refine WL.y (Y.not rfl) rfl ?_
      refine WL.nil ?_
      refine At.then ?_
      rcases cnd h with ⟨hc1045, h⟩ | ⟨hc1045, h⟩
      ·refine WC.condT' rfl hc1045 ?_
       refine WC.region ?_
       refine WL.y (Y.move rfl) rfl ?_
       refine WL.y (Y.nilCheck rfl) rfl ?_
       refine WL.y (Y.fieldAddr fo117_1 rfl) rfl ?_
       have hf1046 := hb85.st hst1042 rfl
       refine WL.store (v := vi 2) (cells' := [Value.pointer (some ⟨p23, 0, none⟩), vi 2]) ty32 rfl rfl hf1046 rfl (Nat.le_of_ble_eq_true rfl) rfl rfl ?_
       intro wd1047 hst1048 hb1049
       refine WL.nil ?_
       refine At.then ?_
       refine WC.seq ?_
       refine WC.region ?_
       refine WL.y (Y.move rfl) rfl ?_
       refine WL.y (Y.conv_ui ty22.u ty3.u rfl) rfl ?_
       obtain ⟨t1050, ht1050, h⟩ := lt1 h
       refine WL.yE (Y.assign rfl) (congrArg vi ht1050.symm) rfl ?_
       refine WL.nil ?_
       refine At.then ?_
       refine WC.ret ?_
       have hf1051 := hf1043.mono (imm_st hst1048 rfl rfl)
       have hf1052 := hb1044.st hst1048 rfl
       exact At.res (.inl rfl) rfl (.tmp rfl .nil) ⟨(r1031.b, r1031.n, r1031.at_, 2, t1050, O1039, z1033), ⟨some1 h, (Stp.trans (Stp.up hst1042 rfl) (Stp.up hst1048 rfl)), hf1051, hf1052, hb1049⟩, rfl⟩
      ·refine WC.condF' rfl hc1045 ?_
       refine WC.skip ?_
       refine At.then ?_
       refine WC.seq ?_
       refine WC.region ?_
       refine WL.y (Y.move rfl) rfl ?_
       refine WL.y (Y.conv_ui ty22.u ty3.u rfl) rfl ?_
       obtain ⟨t1053, ht1053, h⟩ := lt1 h
       refine WL.yE (Y.assign rfl) (congrArg vi ht1053.symm) rfl ?_
       refine WL.nil ?_
       refine At.then ?_
       refine WC.ret ?_
       have hf1054 := hb85.st hst1042 rfl
       exact At.res (.inl rfl) rfl (.tmp rfl .nil) ⟨(r1031.b, r1031.n, r1031.at_, c86, t1053, O1039, z1033), ⟨some1 h, (Stp.up hst1042 rfl), hf1043, hb1044, hf1054⟩, rfl⟩
    ·rintro ⟨c1015, c1018, c1019, c1021, x1022, O1023, v1016⟩ wd1024 ⟨rfl, hst1025, hf1017, hb1014, hb1020⟩
     replace h := hk1027
     try dsimp only at h hst1025 hf1017 hb1014 hb1020
     refine (show WL _ _ _ _ _ ((36, vi x1022) :: _) _ from ?_)
     refine WL.y (Y.add_i rfl rfl) rfl ?_
     refine WL.y (Y.fieldAddr fo27_0 rfl) rfl ?_
     obtain ⟨t1055, ht1055, h⟩ := lt1 h
     refine WL.ren 37 rfl (congrArg vi ht1055.symm) ?_
     have hf1056 := hb49.st hst90 rfl
     have hf1057 := hf1056.st hst1025 rfl
     refine WL.store (v := vi t1055) (cells' := [vi t1055, vu 0, vi 0, Value.slice none 0 0, vi 0, Value.slice none 0 0]) ty3 rfl rfl hf1057 rfl (Nat.le_of_ble_eq_true rfl) rfl rfl ?_
     intro wd1058 hst1059 hb1060
     refine WL.nil ?_
     refine At.then ?_
     refine WC.seq ?_
     refine WC.region ?_
     have hf1061 := hf1013.st hst1025 rfl
     have hf1062 := hf1061.st hst1059 rfl
     refine WL.y (Y.loadSc ty115 rfl rfl (hf1062.cell 0 _ rfl)) rfl ?_
     obtain ⟨p1078, h, hk1079⟩ := bnd h
     refine WL.callJ (vals := [Value.pointer (some ⟨p37, 0, none⟩)]) (σ := (List UInt8 × Int × Int × Int × Int × List UInt64 × Own × Value × Value)) (fun x w' => (x.1, x.2.1, x.2.2.1, x.2.2.2.1, x.2.2.2.2.1, x.2.2.2.2.2.1) = p1078 ∧ Stp [12, 13, 22, 23, 24, 1013] O1023 wd1058 x.2.2.2.2.2.2.1 w' ∧ Sl Rep.b w' (imm x.2.2.2.2.2.2.1) x.2.2.2.2.2.2.2.1 x.1 ∧ Blk 12 x.2.2.2.2.2.2.1 w' p23 107 [x.2.2.2.2.2.2.2.1, vi x.2.1, vi x.2.2.1] ∧ Blk 13 x.2.2.2.2.2.2.1 w' p37 117 [Value.pointer (some ⟨p23, 0, none⟩), vi x.2.2.2.1] ∧ OwnSl 1015 Rep.u 22 x.2.2.2.2.2.2.1 w' x.2.2.2.2.2.2.2.2 x.2.2.2.2.2.1) (fun x => Value.agg (List.toArray [vi x.2.2.2.2.1, x.2.2.2.2.2.2.2.2])) kok86 rfl rfl ?_ ?_
     ·refine Rets.enter Try.func86 rfl rfl ?_
      refine (show WC _ _ _ _ [(0, Value.pointer (some ⟨p37, 0, none⟩))] _ from ?_)
      refine WC.seq ?_
      refine WC.region ?_
      refine WL.alloc (O := O1023) 22 [vi 0, Value.slice none 0 0] ty25 rfl rfl ?_
      intro p1081 O1082 wd1083 hst1084 hb1080
      refine WL.nil ?_
      refine At.then ?_
      refine WC.seq ?_
      refine WC.region ?_
      refine WL.y (Y.move rfl) rfl ?_
      obtain ⟨p1097, h, hk1098⟩ := bnd h
      refine WL.callJ (vals := [Value.pointer (some ⟨p37, 0, none⟩), vi 8]) (σ := (List UInt8 × Int × Int × Int × Int × Own × Value)) (fun x w' => (x.1, x.2.1, x.2.2.1, x.2.2.2.1, x.2.2.2.2.1) = p1097 ∧ Stp [12, 13] O1082 wd1083 x.2.2.2.2.2.1 w' ∧ Sl Rep.b w' (imm x.2.2.2.2.2.1) x.2.2.2.2.2.2 x.1 ∧ Blk 12 x.2.2.2.2.2.1 w' p23 107 [x.2.2.2.2.2.2, vi x.2.1, vi x.2.2.1] ∧ Blk 13 x.2.2.2.2.2.1 w' p37 117 [Value.pointer (some ⟨p23, 0, none⟩), vi x.2.2.2.1]) (fun x => vi x.2.2.2.2.1) kok82 rfl rfl ?_ ?_
      ·refine Rets.enter Try.func82 rfl rfl ?_
       refine (show WC _ _ _ _ [(0, Value.pointer (some ⟨p37, 0, none⟩)), (1, vi 8)] _ from ?_)
       refine WC.seq ?_
       refine WC.region ?_
       refine WL.y (Y.assign rfl) rfl ?_
       refine WL.nil ?_
       refine At.then ?_
       refine WC.seq ?_
       refine WC.seq ?_
       refine WC.region ?_
       refine WL.y (Y.move rfl) rfl ?_
       refine WL.y (Y.nilCheck rfl) rfl ?_
       refine WL.y (Y.fieldAddr fo117_1 rfl) rfl ?_
       have hf1099 := hb1020.st hst1059 rfl
       have hf1100 := hf1099.st hst1084 rfl
       refine WL.y (Y.loadSc ty32 rfl rfl (hf1100.cell 1 _ rfl)) rfl ?_
       refine WL.y (Y.neq_i rfl rfl) rfl ?_
       refine WL.nil ?_
       refine At.then ?_
       rcases cnd h with ⟨hc1101, h⟩ | ⟨hc1101, h⟩
       ·refine WC.condT' rfl hc1101 ?_
        refine WC.seq ?_
        refine WC.region ?_
        refine WL.y (Y.assign rfl) rfl ?_
        refine WL.nil ?_
        refine At.then ?_
        refine WC.ret ?_
        refine At.thenR ?_
        have hf1102 := hf1017.mono (imm_st hst1059 rfl rfl)
        have hf1103 := hf1102.mono (imm_st hst1084 rfl rfl)
        have hf1104 := hb1014.st hst1059 rfl
        have hf1105 := hf1104.st hst1084 rfl
        exact At.res (.inl rfl) rfl (.tmp rfl .nil) ⟨(c1015, c1018, c1019, c1021, 0, O1082, v1016), ⟨some1 h, (Stp.refl _ _ _), hf1103, hf1105, hf1100⟩, rfl⟩
       ·refine WC.condF' rfl hc1101 ?_
        refine WC.skip ?_
        refine At.then ?_
        refine WC.seq ?_
        refine WC.region ?_
        refine WL.y (Y.move rfl) rfl ?_
        refine WL.y (Y.nilCheck rfl) rfl ?_
        refine WL.y (Y.fieldAddr fo117_0 rfl) rfl ?_
        refine WL.y (Y.loadSc ty61 rfl rfl (hf1100.cell 0 _ rfl)) rfl ?_
        refine WL.y (Y.move rfl) rfl ?_
        have hf1106 := hb1014.st hst1059 rfl
        have hf1107 := hf1106.st hst1084 rfl
        have hf1108 := hf1017.mono (imm_st hst1059 rfl rfl)
        have hf1109 := hf1108.mono (imm_st hst1084 rfl rfl)
        obtain ⟨⟨r1110, r1111, r1112⟩, hp1113, h⟩ := bnd h
        refine WL.call (vals := [Value.pointer (some ⟨p23, 0, none⟩), vi 8]) kok103 rfl rfl (c_bitio_Reader_Take (A := imm O1082) (a0 := (bitio_Reader.mk c1015 c1018 c1019)) hf1109 hf1107.blk (fun k hk => imm_ne hf1107.lab rfl k hk) hp1113) ?_
        rintro vr1119 wd1118 ⟨z1114, rfl, hm1117, f1115, f1116⟩
        obtain ⟨O1120, hold1121, hnew1122, hst1123⟩ := adopt O1082 (fun k => 1) [12] hm1117 (memB hf1107.lab rfl)
        have hf1124 : Sl Rep.b wd1118 (imm O1120) z1114 r1112.b := Sl.adoptI (O := O1082) f1115 (fun _ hk => hk) (fun _ _ => Nat.le_refl _) hold1121 hnew1122
        have hb1125 : Blk 12 O1120 wd1118 p23 107 [z1114, vi r1112.n, vi r1112.at_] := Blk.adopt hf1107 hold1121 f1116
        refine WL.y (Y.move rfl) rfl ?_
        refine WL.y (Y.extract rfl rfl) rfl ?_
        refine WL.y (Y.extract rfl rfl) rfl ?_
        refine WL.y (Y.assign rfl) rfl ?_
        refine WL.y (Y.assign rfl) rfl ?_
        refine WL.nil ?_
        refine At.then ?_
        refine WC.seq ?_
        refine WC.seq ?_
        refine WC.region ?_
        refine WL.y (Y.move rfl) rfl ?_
        refine WL.y (Y.not rfl) rfl ?_
        refine WL.nil ?_
        refine At.then ?_
        rcases cnd h with ⟨hc1126, h⟩ | ⟨hc1126, h⟩
        ·refine WC.condT' rfl hc1126 ?_
         refine WC.region ?_
         refine WL.y (Y.move rfl) rfl ?_
         refine WL.y (Y.nilCheck rfl) rfl ?_
         refine WL.y (Y.fieldAddr fo117_1 rfl) rfl ?_
         have hf1127 := hf1100.st hst1123 rfl
         refine WL.store (v := vi 2) (cells' := [Value.pointer (some ⟨p23, 0, none⟩), vi 2]) ty32 rfl rfl hf1127 rfl (Nat.le_of_ble_eq_true rfl) rfl rfl ?_
         intro wd1128 hst1129 hb1130
         refine WL.nil ?_
         refine At.then ?_
         refine WC.seq ?_
         refine WC.region ?_
         refine WL.y (Y.move rfl) rfl ?_
         refine WL.y (Y.conv_ui ty22.u ty3.u rfl) rfl ?_
         obtain ⟨t1131, ht1131, h⟩ := lt1 h
         refine WL.yE (Y.assign rfl) (congrArg vi ht1131.symm) rfl ?_
         refine WL.nil ?_
         refine At.then ?_
         refine WC.ret ?_
         have hf1132 := hf1124.mono (imm_st hst1129 rfl rfl)
         have hf1133 := hb1125.st hst1129 rfl
         exact At.res (.inl rfl) rfl (.tmp rfl .nil) ⟨(r1112.b, r1112.n, r1112.at_, 2, t1131, O1120, z1114), ⟨some1 h, (Stp.trans (Stp.up hst1123 rfl) (Stp.up hst1129 rfl)), hf1132, hf1133, hb1130⟩, rfl⟩
        ·refine WC.condF' rfl hc1126 ?_
         refine WC.skip ?_
         refine At.then ?_
         refine WC.seq ?_
         refine WC.region ?_
         refine WL.y (Y.move rfl) rfl ?_
         refine WL.y (Y.conv_ui ty22.u ty3.u rfl) rfl ?_
         obtain ⟨t1134, ht1134, h⟩ := lt1 h
         refine WL.yE (Y.assign rfl) (congrArg vi ht1134.symm) rfl ?_
         refine WL.nil ?_
         refine At.then ?_
         refine WC.ret ?_
         have hf1135 := hf1100.st hst1123 rfl
         exact At.res (.inl rfl) rfl (.tmp rfl .nil) ⟨(r1112.b, r1112.n, r1112.at_, c1021, t1134, O1120, z1114), ⟨some1 h, (Stp.up hst1123 rfl), hf1124, hb1125, hf1135⟩, rfl⟩
      ·rintro ⟨c1087, c1090, c1091, c1092, x1093, O1094, v1088⟩ wd1095 ⟨rfl, hst1096, hf1089, hb1086, hb1085⟩
       replace h := hk1098
       try dsimp only at h hst1096 hf1089 hb1086 hb1085
       refine (show WL _ _ _ _ _ ((5, vi x1093) :: _) _ from ?_)
       refine WL.y (Y.assign rfl) rfl ?_
       refine WL.nil ?_
       refine At.then ?_
       refine WC.seq ?_
       obtain ⟨p1141, h, hk1142⟩ := bnd h
       refine WC.join (σ := (Int × Own)) (fun x w' => x.1 = p1141 ∧ Stp [13] O1094 wd1095 x.2 w' ∧ Blk 13 x.2 w' p37 117 [Value.pointer (some ⟨p23, 0, none⟩), vi x.1]) (fun x => [(0, Value.pointer (some ⟨p37, 0, none⟩)), (2, Value.pointer (some ⟨p1081, 0, none⟩)), (3, vi x1093)]) ?_ ?_
       ·refine WC.seq ?_
        refine WC.region ?_
        refine WL.y (Y.move rfl) rfl ?_
        refine WL.y (Y.nilCheck rfl) rfl ?_
        refine WL.y (Y.fieldAddr fo117_1 rfl) rfl ?_
        refine WL.y (Y.loadSc ty32 rfl rfl (hb1085.cell 1 _ rfl)) rfl ?_
        refine WL.y (Y.eql_i rfl rfl) rfl ?_
        refine WL.y (Y.move rfl) rfl ?_
        refine WL.cut 3 (σ := Unit) (fun _ w' => wd1095 = w') (fun _ => [(0, Value.pointer (some ⟨p37, 0, none⟩)), (2, Value.pointer (some ⟨p1081, 0, none⟩)), (3, vi x1093), (14, Value.bool ((decide (c1092 = 0)) && (decide (160 < x1093))))]) ?_ ?_
        ·refine WL.part 11 rfl (fun hE1143 => ?_) (fun hE1143 => ?_)
         ·refine WL.ung rfl rfl ?_
          refine WL.y (Y.move rfl) rfl ?_
          refine WL.ung rfl rfl ?_
          refine WL.y (Y.gtr_i rfl rfl) rfl ?_
          refine WL.y (Y.pick (b := true) rfl rfl) rfl ?_
          refine WL.ren (v' := Value.bool ((decide (c1092 = 0)) && (decide (160 < x1093)))) 14 rfl (congrArg Value.bool (andT hE1143)) ?_
          exact WL.nil (At.join () rfl (.cons rfl (.cons rfl (.cons rfl (.cons rfl .nil)))))
         ·refine WL.gS rfl rfl rfl rfl ?_
          refine WL.gS rfl rfl rfl rfl ?_
          refine WL.y (Y.pick (b := false) rfl rfl) rfl ?_
          refine WL.ren (v' := Value.bool ((decide (c1092 = 0)) && (decide (160 < x1093)))) 14 rfl (congrArg Value.bool (andF hE1143)) ?_
          exact WL.nil (At.join () rfl (.cons rfl (.cons rfl (.cons rfl (.cons rfl .nil)))))
        ·rintro _ _ rfl
         refine (show WL _ _ _ _ _ [(0, Value.pointer (some ⟨p37, 0, none⟩)), (2, Value.pointer (some ⟨p1081, 0, none⟩)), (3, vi x1093), (14, Value.bool ((decide (c1092 = 0)) && (decide (160 < x1093))))] _ from ?_)
         refine WL.nil ?_
         refine At.then ?_
         rcases cnd h with ⟨hc1144, h⟩ | ⟨hc1144, h⟩
         ·refine WC.condT' rfl hc1144 ?_
          refine WC.region ?_
          refine WL.y (Y.move rfl) rfl ?_
          refine WL.y (Y.nilCheck rfl) rfl ?_
          refine WL.y (Y.fieldAddr fo117_1 rfl) rfl ?_
          refine WL.store (v := vi 4) (cells' := [Value.pointer (some ⟨p23, 0, none⟩), vi 4]) ty32 rfl rfl hb1085 rfl (Nat.le_of_ble_eq_true rfl) rfl rfl ?_
          intro wd1145 hst1146 hb1147
          refine WL.nil ?_
          exact At.join (σ := (Int × Own)) (4, O1094) ⟨some1 h, (Stp.up hst1146 rfl), hb1147⟩ (.cons rfl (.cons rfl (.cons rfl .nil)))
         ·refine WC.condF' rfl hc1144 ?_
          refine WC.skip ?_
          exact At.join (σ := (Int × Own)) (c1092, O1094) ⟨some1 h, (Stp.refl _ _ _), hb1085⟩ (.cons rfl (.cons rfl (.cons rfl .nil)))
       ·rintro ⟨c1137, O1138⟩ wd1139 ⟨rfl, hst1140, hb1136⟩
        replace h := hk1142
        try dsimp only at h hst1140 hb1136
        refine (show At _ _ _ [(0, Value.pointer (some ⟨p37, 0, none⟩)), (2, Value.pointer (some ⟨p1081, 0, none⟩)), (3, vi x1093)] _ from ?_)
        refine At.then ?_
        refine WC.seq ?_
        refine WC.seq ?_
        refine WC.region ?_
        refine WL.y (Y.move rfl) rfl ?_
        refine WL.y (Y.nilCheck rfl) rfl ?_
        refine WL.y (Y.fieldAddr fo117_1 rfl) rfl ?_
        refine WL.y (Y.loadSc ty32 rfl rfl (hb1136.cell 1 _ rfl)) rfl ?_
        refine WL.y (Y.neq_i rfl rfl) rfl ?_
        refine WL.y (Y.move rfl) rfl ?_
        refine WL.cut 3 (σ := Unit) (fun _ w' => wd1139 = w') (fun _ => [(0, Value.pointer (some ⟨p37, 0, none⟩)), (2, Value.pointer (some ⟨p1081, 0, none⟩)), (3, vi x1093), (26, Value.bool ((!decide (c1137 = 0)) || (decide (x1093 = 0))))]) ?_ ?_
        ·refine WL.part 23 rfl (fun hE1148 => ?_) (fun hE1148 => ?_)
         ·refine WL.gS rfl rfl rfl rfl ?_
          refine WL.gS rfl rfl rfl rfl ?_
          refine WL.y (Y.pick (b := true) rfl rfl) rfl ?_
          refine WL.ren (v' := Value.bool ((!decide (c1137 = 0)) || (decide (x1093 = 0)))) 26 rfl (congrArg Value.bool (orT hE1148)) ?_
          exact WL.nil (At.join () rfl (.cons rfl (.cons rfl (.cons rfl (.cons rfl .nil)))))
         ·refine WL.ung rfl rfl ?_
          refine WL.y (Y.move rfl) rfl ?_
          refine WL.ung rfl rfl ?_
          refine WL.y (Y.eql_i rfl rfl) rfl ?_
          refine WL.y (Y.pick (b := false) rfl rfl) rfl ?_
          refine WL.ren (v' := Value.bool ((!decide (c1137 = 0)) || (decide (x1093 = 0)))) 26 rfl (congrArg Value.bool (orF hE1148)) ?_
          exact WL.nil (At.join () rfl (.cons rfl (.cons rfl (.cons rfl (.cons rfl .nil)))))
        ·rintro _ _ rfl
         refine (show WL _ _ _ _ _ [(0, Value.pointer (some ⟨p37, 0, none⟩)), (2, Value.pointer (some ⟨p1081, 0, none⟩)), (3, vi x1093), (26, Value.bool ((!decide (c1137 = 0)) || (decide (x1093 = 0))))] _ from ?_)
         refine WL.nil ?_
         refine At.then ?_
         rcases cnd h with ⟨hc1149, h⟩ | ⟨hc1149, h⟩
         ·refine WC.condT' rfl hc1149 ?_
          refine WC.seq ?_
          refine WC.region ?_
          refine WL.y (Y.build (vals := []) (cells := [vi 0, Value.slice none 0 0]) (Fits.evalp rfl) (by kernel_rfl)) rfl ?_
          have hf1150 := hb1080.st hst1096 rfl
          have hf1151 := hf1150.st hst1140 rfl
          refine WL.store (v := Value.agg (List.toArray [vi 0, Value.slice none 0 0])) (cells' := [vi 0, Value.slice none 0 0]) ty25 rfl rfl hf1151 rfl (Nat.le_of_ble_eq_true rfl) rfl rfl ?_
          intro wd1152 hst1153 hb1154
          refine WL.nil ?_
          refine At.then ?_
          refine WC.ret ?_
          refine At.thenR ?_
          have hf1155 := hf1089.mono (imm_st hst1140 rfl rfl)
          have hf1156 := hf1155.mono (imm_st hst1153 rfl rfl)
          have hf1157 := hb1086.st hst1140 rfl
          have hf1158 := hf1157.st hst1153 rfl
          have hf1159 := hb1136.st hst1153 rfl
          exact At.res (.inl rfl) rfl (.cell rfl (hb1154.runAg 0 [vi 0, Value.slice none 0 0] ty25 rfl rfl rfl) .nil) ⟨(c1087, c1090, c1091, c1137, 0, [], O1138, v1088, Value.slice none 0 0), ⟨some1 h, (Stp.trans (Stp.up hst1084 rfl) (Stp.trans (Stp.up hst1096 rfl) (Stp.trans (Stp.up hst1140 rfl) (Stp.up hst1153 rfl)))), hf1156, hf1158, hf1159, (OwnSl.nil 1015 Rep.u 22)⟩, rfl⟩
         ·refine WC.condF' rfl hc1149 ?_
          refine WC.skip ?_
          refine At.then ?_
          refine WC.seq ?_
          refine WC.drawH [12, 13, 23, 24] [0, 1, 2, 3, 4] O1138 6 fmix rfl (by kernel_rfl) ?_
          intro wd1160 hst1161
          refine WD.y 0 rfl (by kernel_rfl) (fun _ _ _ => Y.move rfl) rfl ?_
          refine WD.y 2 rfl (by kernel_rfl) (fun _ _ _ => Y.move rfl) rfl ?_
          obtain ⟨p1183, h, hk1184⟩ := bnd h
          refine WD.join (σ := (Int × List UInt64 × List UInt8 × Int × Int × Int × Own × Value × Value)) (f' := 1) [4, 3, 2, 1, 0] (fun x O' w' => (x.1, x.2.1, x.2.2.1, x.2.2.2.1, x.2.2.2.2.1, x.2.2.2.2.2.1) = p1183 ∧ Stp [12, 13, 23, 24] O1138 wd1160 x.2.2.2.2.2.2.1 w' ∧ OwnSl 1013 Rep.u 22 x.2.2.2.2.2.2.1 w' x.2.2.2.2.2.2.2.1 x.2.1 ∧ Sl Rep.b w' (imm x.2.2.2.2.2.2.1) x.2.2.2.2.2.2.2.2 x.2.2.1 ∧ Blk 12 x.2.2.2.2.2.2.1 w' p23 107 [x.2.2.2.2.2.2.2.2, vi x.2.2.2.1, vi x.2.2.2.2.1] ∧ Blk 13 x.2.2.2.2.2.2.1 w' p37 117 [Value.pointer (some ⟨p23, 0, none⟩), vi x.2.2.2.2.2.1] ∧ x.2.2.2.2.2.2.1 = O') (fun x => [(2, Value.pointer (some ⟨p1081, 0, none⟩)), (32, Value.agg (List.toArray [vi x.1, x.2.2.2.2.2.2.2.1]))]) (fun hJ1185 => ?_) ?_
          ·refine WD.heavy2 1 3 rfl rfl (by kernel_rfl) ?_ ?_
           ·obtain ⟨p1198, h, hk1199⟩ := bnd h
            refine WL.callJ (vals := [Value.pointer (some ⟨p37, 0, none⟩)]) (σ := (List UInt8 × Int × Int × Int × Int × Own × Value)) (fun x w' => (x.1, x.2.1, x.2.2.1, x.2.2.2.1, x.2.2.2.2.1) = p1198 ∧ Stp [12, 13] O1138 wd1160 x.2.2.2.2.2.1 w' ∧ Sl Rep.b w' (imm x.2.2.2.2.2.1) x.2.2.2.2.2.2 x.1 ∧ Blk 12 x.2.2.2.2.2.1 w' p23 107 [x.2.2.2.2.2.2, vi x.2.1, vi x.2.2.1] ∧ Blk 13 x.2.2.2.2.2.1 w' p37 117 [Value.pointer (some ⟨p23, 0, none⟩), vi x.2.2.2.1]) (fun x => vi x.2.2.2.2.1) kok85 rfl rfl ?_ ?_
            ·refine Rets.enter Try.func85 rfl rfl ?_
             refine (show WC _ _ _ _ [(0, Value.pointer (some ⟨p37, 0, none⟩))] _ from ?_)
             refine WC.seq ?_
             refine WC.region ?_
             refine WL.y (Y.assign rfl) rfl ?_
             refine WL.nil ?_
             refine At.then ?_
             refine WC.seq ?_
             refine WC.seq ?_
             refine WC.region ?_
             refine WL.y (Y.move rfl) rfl ?_
             refine WL.y (Y.nilCheck rfl) rfl ?_
             refine WL.y (Y.fieldAddr fo117_1 rfl) rfl ?_
             have hf1200 := hb1136.st hst1161 rfl
             refine WL.y (Y.loadSc ty32 rfl rfl (hf1200.cell 1 _ rfl)) rfl ?_
             refine WL.y (Y.neq_i rfl rfl) rfl ?_
             refine WL.nil ?_
             refine At.then ?_
             rcases cnd h with ⟨hc1201, h⟩ | ⟨hc1201, h⟩
             ·refine WC.condT' rfl hc1201 ?_
              refine WC.seq ?_
              refine WC.region ?_
              refine WL.y (Y.assign rfl) rfl ?_
              refine WL.nil ?_
              refine At.then ?_
              refine WC.ret ?_
              refine At.thenR ?_
              have hf1202 := hf1089.mono (imm_st hst1140 rfl rfl)
              have hf1203 := hf1202.mono (imm_st hst1161 rfl rfl)
              have hf1204 := hb1086.st hst1140 rfl
              have hf1205 := hf1204.st hst1161 rfl
              exact At.res (.inl rfl) rfl (.tmp rfl .nil) ⟨(c1087, c1090, c1091, c1137, 0, O1138, v1088), ⟨some1 h, (Stp.refl _ _ _), hf1203, hf1205, hf1200⟩, rfl⟩
             ·refine WC.condF' rfl hc1201 ?_
              refine WC.skip ?_
              refine At.then ?_
              refine WC.seq ?_
              refine WC.region ?_
              refine WL.y (Y.move rfl) rfl ?_
              refine WL.y (Y.nilCheck rfl) rfl ?_
              refine WL.y (Y.fieldAddr fo117_0 rfl) rfl ?_
              refine WL.y (Y.loadSc ty61 rfl rfl (hf1200.cell 0 _ rfl)) rfl ?_
              have hf1206 := hb1086.st hst1140 rfl
              have hf1207 := hf1206.st hst1161 rfl
              have hf1208 := hf1089.mono (imm_st hst1140 rfl rfl)
              have hf1209 := hf1208.mono (imm_st hst1161 rfl rfl)
              obtain ⟨⟨r1210, r1211, r1212⟩, hp1213, h⟩ := bnd h
              refine WL.call (vals := [Value.pointer (some ⟨p23, 0, none⟩)]) kok105 rfl rfl (c_vary_GetInt (A := imm O1138) (a0 := (bitio_Reader.mk c1087 c1090 c1091)) hf1209 hf1207.blk (fun k hk => imm_ne hf1207.lab rfl k hk) hp1213) ?_
              rintro vr1219 wd1218 ⟨z1214, rfl, hm1217, f1215, f1216⟩
              obtain ⟨O1220, hold1221, hnew1222, hst1223⟩ := adopt O1138 (fun k => 1) [12] hm1217 (memB hf1207.lab rfl)
              have hf1224 : Sl Rep.b wd1218 (imm O1220) z1214 r1212.b := Sl.adoptI (O := O1138) f1215 (fun _ hk => hk) (fun _ _ => Nat.le_refl _) hold1221 hnew1222
              have hb1225 : Blk 12 O1220 wd1218 p23 107 [z1214, vi r1212.n, vi r1212.at_] := Blk.adopt hf1207 hold1221 f1216
              refine WL.y (Y.move rfl) rfl ?_
              refine WL.y (Y.extract rfl rfl) rfl ?_
              refine WL.y (Y.extract rfl rfl) rfl ?_
              refine WL.y (Y.assign rfl) rfl ?_
              refine WL.y (Y.assign rfl) rfl ?_
              refine WL.nil ?_
              refine At.then ?_
              refine WC.seq ?_
              refine WC.region ?_
              refine WL.y (Y.move rfl) rfl ?_
              refine WL.y (Y.move rfl) rfl ?_
              refine WL.y (Y.nilCheck rfl) rfl ?_
              refine WL.y (Y.fieldAddr fo117_1 rfl) rfl ?_
              have hf1226 := hf1200.st hst1223 rfl
              refine WL.store (v := vi r1211) (cells' := [Value.pointer (some ⟨p23, 0, none⟩), vi r1211]) ty32 rfl rfl hf1226 rfl (Nat.le_of_ble_eq_true rfl) rfl rfl ?_
              intro wd1227 hst1228 hb1229
              refine WL.nil ?_
              refine At.then ?_
              refine WC.seq ?_
              refine WC.region ?_
              refine WL.y (Y.move rfl) rfl ?_
              refine WL.y (Y.assign rfl) rfl ?_
              refine WL.nil ?_
              refine At.then ?_
              refine WC.ret ?_
              have hf1230 := hf1224.mono (imm_st hst1228 rfl rfl)
              have hf1231 := hb1225.st hst1228 rfl
              exact At.res (.inl rfl) rfl (.tmp rfl .nil) ⟨(r1212.b, r1212.n, r1212.at_, r1211, r1210, O1220, z1214), ⟨some1 h, (Stp.trans (Stp.up hst1223 rfl) (Stp.up hst1228 rfl)), hf1230, hf1231, hb1229⟩, rfl⟩
            ·rintro ⟨c1187, c1190, c1191, c1193, x1194, O1195, v1188⟩ wd1196 ⟨rfl, hst1197, hf1189, hb1186, hb1192⟩
             replace h := hk1199
             try dsimp only at h hst1197 hf1189 hb1186 hb1192
             refine (show WL _ _ _ _ _ ((29, vi x1194) :: _) _ from ?_)
             refine WL.nil ?_
             refine At.dq (Stp.up hst1197 rfl) ?_
             refine WD.heavy 3 rfl (by kernel_rfl) ?_
             obtain ⟨t1232, ht1232, h⟩ := bnd h
             refine WL.make (O := O1195) (R := Rep.u) (zx := (0 : UInt64)) 23 (by decide) ty23 ty22 rfl (by decide) (by decide) rfl rfl (fun _ _ => rfl) ht1232 rfl ?_
             intro v1233 O1235 wd1236 hst1237 ho1234
             refine WL.nil ?_
             refine At.dq (Stp.up hst1237 rfl) ?_
             have hh1241 := h
             obtain ⟨p1238, m1239, c1240, rfl⟩ := ho1234.shape
             have h := hh1241
             refine WD.y 4 rfl (by kernel_rfl) (fun _ _ _ => Y.build (vals := [(0, vi x1194), (1, (Value.slice p1238 m1239 c1240))]) (cells := [vi x1194, (Value.slice p1238 m1239 c1240)]) (Fits.evalp rfl) (by kernel_rfl)) rfl ?_
             obtain ⟨O1245, hst1246, ho1247⟩ := OwnSl.rlb 1013 rfl ho1234
             have hf1248 := hf1189.mono (imm_st hst1237 rfl rfl)
             have hf1249 := hf1248.mono (imm_st hst1246 rfl rfl)
             have hf1250 := hb1186.st hst1237 rfl
             have hf1251 := hf1250.st hst1246 rfl
             have hf1252 := hb1192.st hst1237 rfl
             have hf1253 := hf1252.st hst1246 rfl
             refine WD.own (Stp.up hst1246 rfl) ?_
             refine WD.perm _ [4, 3, 2, 1, 0] (by kernel_rfl) ?_
             exact hJ1185 (x1194, t1232, c1187, c1190, c1191, c1193, O1245, (Value.slice p1238 m1239 c1240), v1188) _ _ _ ⟨some1 h, (Stp.trans (Stp.up hst1197 rfl) (Stp.trans (Stp.up hst1237 rfl) (Stp.up hst1246 rfl))), ho1247, hf1249, hf1251, hf1253, rfl⟩ (.cons rfl (.cons rfl .nil))
           ·replace h := bswap h
            obtain ⟨t1254, ht1254, h⟩ := bnd h
            refine WL.make (O := O1138) (R := Rep.u) (zx := (0 : UInt64)) 24 (by decide) ty23 ty22 rfl (by decide) (by decide) rfl rfl (fun _ _ => rfl) ht1254 rfl ?_
            intro v1255 O1257 wd1258 hst1259 ho1256
            refine WL.nil ?_
            refine At.dq (Stp.up hst1259 rfl) ?_
            refine WD.heavy 1 rfl (by kernel_rfl) ?_
            obtain ⟨p1272, h, hk1273⟩ := bnd h
            refine WL.callJ (vals := [Value.pointer (some ⟨p37, 0, none⟩)]) (σ := (List UInt8 × Int × Int × Int × Int × Own × Value)) (fun x w' => (x.1, x.2.1, x.2.2.1, x.2.2.2.1, x.2.2.2.2.1) = p1272 ∧ Stp [12, 13] O1257 wd1258 x.2.2.2.2.2.1 w' ∧ Sl Rep.b w' (imm x.2.2.2.2.2.1) x.2.2.2.2.2.2 x.1 ∧ Blk 12 x.2.2.2.2.2.1 w' p23 107 [x.2.2.2.2.2.2, vi x.2.1, vi x.2.2.1] ∧ Blk 13 x.2.2.2.2.2.1 w' p37 117 [Value.pointer (some ⟨p23, 0, none⟩), vi x.2.2.2.1]) (fun x => vi x.2.2.2.2.1) kok85 rfl rfl ?_ ?_
            ·refine Rets.enter Try.func85 rfl rfl ?_
             refine (show WC _ _ _ _ [(0, Value.pointer (some ⟨p37, 0, none⟩))] _ from ?_)
             refine WC.seq ?_
             refine WC.region ?_
             refine WL.y (Y.assign rfl) rfl ?_
             refine WL.nil ?_
             refine At.then ?_
             refine WC.seq ?_
             refine WC.seq ?_
             refine WC.region ?_
             refine WL.y (Y.move rfl) rfl ?_
             refine WL.y (Y.nilCheck rfl) rfl ?_
             refine WL.y (Y.fieldAddr fo117_1 rfl) rfl ?_
             have hf1274 := hb1136.st hst1161 rfl
             have hf1275 := hf1274.st hst1259 rfl
             refine WL.y (Y.loadSc ty32 rfl rfl (hf1275.cell 1 _ rfl)) rfl ?_
             refine WL.y (Y.neq_i rfl rfl) rfl ?_
             refine WL.nil ?_
             refine At.then ?_
             rcases cnd h with ⟨hc1276, h⟩ | ⟨hc1276, h⟩
             ·refine WC.condT' rfl hc1276 ?_
              refine WC.seq ?_
              refine WC.region ?_
              refine WL.y (Y.assign rfl) rfl ?_
              refine WL.nil ?_
              refine At.then ?_
              refine WC.ret ?_
              refine At.thenR ?_
              have hf1277 := hf1089.mono (imm_st hst1140 rfl rfl)
              have hf1278 := hf1277.mono (imm_st hst1161 rfl rfl)
              have hf1279 := hf1278.mono (imm_st hst1259 rfl rfl)
              have hf1280 := hb1086.st hst1140 rfl
              have hf1281 := hf1280.st hst1161 rfl
              have hf1282 := hf1281.st hst1259 rfl
              exact At.res (.inl rfl) rfl (.tmp rfl .nil) ⟨(c1087, c1090, c1091, c1137, 0, O1257, v1088), ⟨some1 h, (Stp.refl _ _ _), hf1279, hf1282, hf1275⟩, rfl⟩
             ·refine WC.condF' rfl hc1276 ?_
              refine WC.skip ?_
              refine At.then ?_
              refine WC.seq ?_
              refine WC.region ?_
              refine WL.y (Y.move rfl) rfl ?_
              refine WL.y (Y.nilCheck rfl) rfl ?_
              refine WL.y (Y.fieldAddr fo117_0 rfl) rfl ?_
              refine WL.y (Y.loadSc ty61 rfl rfl (hf1275.cell 0 _ rfl)) rfl ?_
              have hf1283 := hb1086.st hst1140 rfl
              have hf1284 := hf1283.st hst1161 rfl
              have hf1285 := hf1284.st hst1259 rfl
              have hf1286 := hf1089.mono (imm_st hst1140 rfl rfl)
              have hf1287 := hf1286.mono (imm_st hst1161 rfl rfl)
              have hf1288 := hf1287.mono (imm_st hst1259 rfl rfl)
              obtain ⟨⟨r1289, r1290, r1291⟩, hp1292, h⟩ := bnd h
              refine WL.call (vals := [Value.pointer (some ⟨p23, 0, none⟩)]) kok105 rfl rfl (c_vary_GetInt (A := imm O1257) (a0 := (bitio_Reader.mk c1087 c1090 c1091)) hf1288 hf1285.blk (fun k hk => imm_ne hf1285.lab rfl k hk) hp1292) ?_
              rintro vr1298 wd1297 ⟨z1293, rfl, hm1296, f1294, f1295⟩
              obtain ⟨O1299, hold1300, hnew1301, hst1302⟩ := adopt O1257 (fun k => 1) [12] hm1296 (memB hf1285.lab rfl)
              have hf1303 : Sl Rep.b wd1297 (imm O1299) z1293 r1291.b := Sl.adoptI (O := O1257) f1294 (fun _ hk => hk) (fun _ _ => Nat.le_refl _) hold1300 hnew1301
              have hb1304 : Blk 12 O1299 wd1297 p23 107 [z1293, vi r1291.n, vi r1291.at_] := Blk.adopt hf1285 hold1300 f1295
              refine WL.y (Y.move rfl) rfl ?_
              refine WL.y (Y.extract rfl rfl) rfl ?_
              refine WL.y (Y.extract rfl rfl) rfl ?_
              refine WL.y (Y.assign rfl) rfl ?_
              refine WL.y (Y.assign rfl) rfl ?_
              refine WL.nil ?_
              refine At.then ?_
              refine WC.seq ?_
              refine WC.region ?_
              refine WL.y (Y.move rfl) rfl ?_
              refine WL.y (Y.move rfl) rfl ?_
              refine WL.y (Y.nilCheck rfl) rfl ?_
              refine WL.y (Y.fieldAddr fo117_1 rfl) rfl ?_
              have hf1305 := hf1275.st hst1302 rfl
              refine WL.store (v := vi r1290) (cells' := [Value.pointer (some ⟨p23, 0, none⟩), vi r1290]) ty32 rfl rfl hf1305 rfl (Nat.le_of_ble_eq_true rfl) rfl rfl ?_
              intro wd1306 hst1307 hb1308
              refine WL.nil ?_
              refine At.then ?_
              refine WC.seq ?_
              refine WC.region ?_
              refine WL.y (Y.move rfl) rfl ?_
              refine WL.y (Y.assign rfl) rfl ?_
              refine WL.nil ?_
              refine At.then ?_
              refine WC.ret ?_
              have hf1309 := hf1303.mono (imm_st hst1307 rfl rfl)
              have hf1310 := hb1304.st hst1307 rfl
              exact At.res (.inl rfl) rfl (.tmp rfl .nil) ⟨(r1291.b, r1291.n, r1291.at_, r1290, r1289, O1299, z1293), ⟨some1 h, (Stp.trans (Stp.up hst1302 rfl) (Stp.up hst1307 rfl)), hf1309, hf1310, hb1308⟩, rfl⟩
            ·rintro ⟨c1261, c1264, c1265, c1267, x1268, O1269, v1262⟩ wd1270 ⟨rfl, hst1271, hf1263, hb1260, hb1266⟩
             replace h := hk1273
             try dsimp only at h hst1271 hf1263 hb1260 hb1266
             refine (show WL _ _ _ _ _ ((29, vi x1268) :: _) _ from ?_)
             refine WL.nil ?_
             refine At.dq (Stp.up hst1271 rfl) ?_
             have hf1311 := ho1256.st hst1271 rfl rfl rfl
             have hh1315 := h
             obtain ⟨p1312, m1313, c1314, rfl⟩ := hf1311.shape
             have h := hh1315
             refine WD.y 4 rfl (by kernel_rfl) (fun _ _ _ => Y.build (vals := [(0, vi x1268), (1, (Value.slice p1312 m1313 c1314))]) (cells := [vi x1268, (Value.slice p1312 m1313 c1314)]) (Fits.evalp rfl) (by kernel_rfl)) rfl ?_
             obtain ⟨O1319, hst1320, ho1321⟩ := OwnSl.rlb 1013 rfl hf1311
             have hf1322 := hf1263.mono (imm_st hst1320 rfl rfl)
             have hf1323 := hb1260.st hst1320 rfl
             have hf1324 := hb1266.st hst1320 rfl
             refine WD.own (Stp.up hst1320 rfl) ?_
             refine WD.perm _ [4, 3, 2, 1, 0] (by kernel_rfl) ?_
             exact hJ1185 (x1268, t1254, c1261, c1264, c1265, c1267, O1319, (Value.slice p1312 m1313 c1314), v1262) _ _ _ ⟨some1 h, (Stp.trans (Stp.up hst1259 rfl) (Stp.trans (Stp.up hst1271 rfl) (Stp.up hst1320 rfl))), ho1321, hf1322, hf1323, hf1324, rfl⟩ (.cons rfl (.cons rfl .nil))
          ·rintro ⟨x1168, x1169, c1173, c1176, c1177, c1179, O1180, v1170, v1174⟩ _ wd1181 ⟨rfl, hst1182, hf1171, hf1175, hb1172, hb1178, rfl⟩
           replace h := hk1184
           try dsimp only at h hst1182 hf1171 hf1175 hb1172 hb1178
           refine (show WD _ _ _ _ _ _ _ _ [(2, Value.pointer (some ⟨p1081, 0, none⟩)), (32, Value.agg (List.toArray [vi x1168, v1170]))] _ _ from ?_)
           refine WD.phase [22] [0, 1, 2, 3, 4, 5] (by kernel_rfl) (by kernel_rfl) ?_
           refine WD.heavy 5 rfl (by kernel_rfl) ?_
           have hh1328 := h
           obtain ⟨p1325, m1326, c1327, rfl⟩ := hf1171.shape
           have h := hh1328
           have hf1329 := hb1080.st hst1096 rfl
           have hf1330 := hf1329.st hst1140 rfl
           have hf1331 := hf1330.st hst1161 rfl
           have hf1332 := hf1331.st hst1182 rfl
           refine WL.store (v := Value.agg (List.toArray [vi x1168, (Value.slice p1325 m1326 c1327)])) (cells' := [vi x1168, (Value.slice p1325 m1326 c1327)]) ty25 rfl rfl hf1332 rfl (Nat.le_of_ble_eq_true rfl) rfl rfl ?_
           intro wd1333 hst1334 hb1335
           refine WL.nil ?_
           refine At.dq (Stp.up hst1334 rfl) ?_
           refine WD.done_ (by kernel_rfl) ?_
           refine At.then ?_
           refine WC.ret ?_
           have hf1336 := hf1171.st hst1334 rfl rfl rfl
           obtain ⟨O1337, hst1338, ho1339⟩ := OwnSl.rlb 1015 rfl hf1336
           have hf1340 := hf1175.mono (imm_st hst1334 rfl rfl)
           have hf1341 := hf1340.mono (imm_st hst1338 rfl rfl)
           have hf1342 := hb1172.st hst1334 rfl
           have hf1343 := hf1342.st hst1338 rfl
           have hf1344 := hb1178.st hst1334 rfl
           have hf1345 := hf1344.st hst1338 rfl
           have hf1346 := hb1335.st hst1338 rfl
           exact At.res (.inl rfl) rfl (.cell rfl (hf1346.runAg 0 [vi x1168, (Value.slice p1325 m1326 c1327)] ty25 rfl rfl rfl) .nil) ⟨(c1173, c1176, c1177, c1179, x1168, x1169, O1337, v1174, (Value.slice p1325 m1326 c1327)), ⟨some1 h, (Stp.trans (Stp.up hst1084 rfl) (Stp.trans (Stp.up hst1096 rfl) (Stp.trans (Stp.up hst1140 rfl) (Stp.trans (Stp.up hst1161 rfl) (Stp.trans (Stp.up hst1182 rfl) (Stp.trans (Stp.up hst1334 rfl) (Stp.up hst1338 rfl))))))), hf1341, hf1343, hf1345, ho1339⟩, rfl⟩
     ·rintro ⟨c1064, c1067, c1068, c1070, x1071, x1072, O1075, v1065, v1073⟩ wd1076 ⟨rfl, hst1077, hf1066, hb1063, hb1069, hf1074⟩
      replace h := hk1079
      try dsimp only at h hst1077 hf1066 hb1063 hb1069 hf1074
      refine (show WL _ _ _ _ _ ((40, Value.agg (List.toArray [vi x1071, v1073])) :: _) _ from ?_)
      refine WL.y (Y.fieldAddr fo27_2 rfl) rfl ?_
      have hh1350 := h
      obtain ⟨p1347, m1348, c1349, rfl⟩ := hf1074.shape
      have h := hh1350
      have hf1351 := hb1060.st hst1077 rfl
      refine WL.store (v := Value.agg (List.toArray [vi x1071, (Value.slice p1347 m1348 c1349)])) (cells' := [vi t1055, vu 0, vi x1071, (Value.slice p1347 m1348 c1349), vi 0, Value.slice none 0 0]) ty25 rfl rfl hf1351 rfl (Nat.le_of_ble_eq_true rfl) rfl rfl ?_
      intro wd1352 hst1353 hb1354
      refine WL.nil ?_
      refine At.then ?_
      refine WC.seq ?_
      refine WC.region ?_
      have hf1355 := hf1062.st hst1077 rfl
      have hf1356 := hf1355.st hst1353 rfl
      refine WL.y (Y.loadSc ty115 rfl rfl (hf1356.cell 0 _ rfl)) rfl ?_
      obtain ⟨p1372, h, hk1373⟩ := bnd h
      refine WL.callJ (vals := [Value.pointer (some ⟨p37, 0, none⟩)]) (σ := (List UInt8 × Int × Int × Int × Int × List UInt64 × Own × Value × Value)) (fun x w' => (x.1, x.2.1, x.2.2.1, x.2.2.2.1, x.2.2.2.2.1, x.2.2.2.2.2.1) = p1372 ∧ Stp [12, 13, 25, 26, 27, 1016] O1075 wd1352 x.2.2.2.2.2.2.1 w' ∧ Sl Rep.b w' (imm x.2.2.2.2.2.2.1) x.2.2.2.2.2.2.2.1 x.1 ∧ Blk 12 x.2.2.2.2.2.2.1 w' p23 107 [x.2.2.2.2.2.2.2.1, vi x.2.1, vi x.2.2.1] ∧ Blk 13 x.2.2.2.2.2.2.1 w' p37 117 [Value.pointer (some ⟨p23, 0, none⟩), vi x.2.2.2.1] ∧ OwnSl 1018 Rep.u 22 x.2.2.2.2.2.2.1 w' x.2.2.2.2.2.2.2.2 x.2.2.2.2.2.1) (fun x => Value.agg (List.toArray [vi x.2.2.2.2.1, x.2.2.2.2.2.2.2.2])) kok86 rfl rfl ?_ ?_
      ·refine Rets.enter Try.func86 rfl rfl ?_
       refine (show WC _ _ _ _ [(0, Value.pointer (some ⟨p37, 0, none⟩))] _ from ?_)
       refine WC.seq ?_
       refine WC.region ?_
       refine WL.alloc (O := O1075) 25 [vi 0, Value.slice none 0 0] ty25 rfl rfl ?_
       intro p1375 O1376 wd1377 hst1378 hb1374
       refine WL.nil ?_
       refine At.then ?_
       refine WC.seq ?_
       refine WC.region ?_
       refine WL.y (Y.move rfl) rfl ?_
       obtain ⟨p1391, h, hk1392⟩ := bnd h
       refine WL.callJ (vals := [Value.pointer (some ⟨p37, 0, none⟩), vi 8]) (σ := (List UInt8 × Int × Int × Int × Int × Own × Value)) (fun x w' => (x.1, x.2.1, x.2.2.1, x.2.2.2.1, x.2.2.2.2.1) = p1391 ∧ Stp [12, 13] O1376 wd1377 x.2.2.2.2.2.1 w' ∧ Sl Rep.b w' (imm x.2.2.2.2.2.1) x.2.2.2.2.2.2 x.1 ∧ Blk 12 x.2.2.2.2.2.1 w' p23 107 [x.2.2.2.2.2.2, vi x.2.1, vi x.2.2.1] ∧ Blk 13 x.2.2.2.2.2.1 w' p37 117 [Value.pointer (some ⟨p23, 0, none⟩), vi x.2.2.2.1]) (fun x => vi x.2.2.2.2.1) kok82 rfl rfl ?_ ?_
       ·refine Rets.enter Try.func82 rfl rfl ?_
        refine (show WC _ _ _ _ [(0, Value.pointer (some ⟨p37, 0, none⟩)), (1, vi 8)] _ from ?_)
        refine WC.seq ?_
        refine WC.region ?_
        refine WL.y (Y.assign rfl) rfl ?_
        refine WL.nil ?_
        refine At.then ?_
        refine WC.seq ?_
        refine WC.seq ?_
        refine WC.region ?_
        refine WL.y (Y.move rfl) rfl ?_
        refine WL.y (Y.nilCheck rfl) rfl ?_
        refine WL.y (Y.fieldAddr fo117_1 rfl) rfl ?_
        have hf1393 := hb1069.st hst1353 rfl
        have hf1394 := hf1393.st hst1378 rfl
        refine WL.y (Y.loadSc ty32 rfl rfl (hf1394.cell 1 _ rfl)) rfl ?_
        refine WL.y (Y.neq_i rfl rfl) rfl ?_
        refine WL.nil ?_
        refine At.then ?_
        rcases cnd h with ⟨hc1395, h⟩ | ⟨hc1395, h⟩
        ·refine WC.condT' rfl hc1395 ?_
         refine WC.seq ?_
         refine WC.region ?_
         refine WL.y (Y.assign rfl) rfl ?_
         refine WL.nil ?_
         refine At.then ?_
         refine WC.ret ?_
         refine At.thenR ?_
         have hf1396 := hf1066.mono (imm_st hst1353 rfl rfl)
         have hf1397 := hf1396.mono (imm_st hst1378 rfl rfl)
         have hf1398 := hb1063.st hst1353 rfl
         have hf1399 := hf1398.st hst1378 rfl
         exact At.res (.inl rfl) rfl (.tmp rfl .nil) ⟨(c1064, c1067, c1068, c1070, 0, O1376, v1065), ⟨some1 h, (Stp.refl _ _ _), hf1397, hf1399, hf1394⟩, rfl⟩
        ·refine WC.condF' rfl hc1395 ?_
         refine WC.skip ?_
         refine At.then ?_
         refine WC.seq ?_
         refine WC.region ?_
         refine WL.y (Y.move rfl) rfl ?_
         refine WL.y (Y.nilCheck rfl) rfl ?_
         refine WL.y (Y.fieldAddr fo117_0 rfl) rfl ?_
         refine WL.y (Y.loadSc ty61 rfl rfl (hf1394.cell 0 _ rfl)) rfl ?_
         refine WL.y (Y.move rfl) rfl ?_
         have hf1400 := hb1063.st hst1353 rfl
         have hf1401 := hf1400.st hst1378 rfl
         have hf1402 := hf1066.mono (imm_st hst1353 rfl rfl)
         have hf1403 := hf1402.mono (imm_st hst1378 rfl rfl)
         obtain ⟨⟨r1404, r1405, r1406⟩, hp1407, h⟩ := bnd h
         refine WL.call (vals := [Value.pointer (some ⟨p23, 0, none⟩), vi 8]) kok103 rfl rfl (c_bitio_Reader_Take (A := imm O1376) (a0 := (bitio_Reader.mk c1064 c1067 c1068)) hf1403 hf1401.blk (fun k hk => imm_ne hf1401.lab rfl k hk) hp1407) ?_
         rintro vr1413 wd1412 ⟨z1408, rfl, hm1411, f1409, f1410⟩
         obtain ⟨O1414, hold1415, hnew1416, hst1417⟩ := adopt O1376 (fun k => 1) [12] hm1411 (memB hf1401.lab rfl)
         have hf1418 : Sl Rep.b wd1412 (imm O1414) z1408 r1406.b := Sl.adoptI (O := O1376) f1409 (fun _ hk => hk) (fun _ _ => Nat.le_refl _) hold1415 hnew1416
         have hb1419 : Blk 12 O1414 wd1412 p23 107 [z1408, vi r1406.n, vi r1406.at_] := Blk.adopt hf1401 hold1415 f1410
         refine WL.y (Y.move rfl) rfl ?_
         refine WL.y (Y.extract rfl rfl) rfl ?_
         refine WL.y (Y.extract rfl rfl) rfl ?_
         refine WL.y (Y.assign rfl) rfl ?_
         refine WL.y (Y.assign rfl) rfl ?_
         refine WL.nil ?_
         refine At.then ?_
         refine WC.seq ?_
         refine WC.seq ?_
         refine WC.region ?_
         refine WL.y (Y.move rfl) rfl ?_
         refine WL.y (Y.not rfl) rfl ?_
         refine WL.nil ?_
         refine At.then ?_
         rcases cnd h with ⟨hc1420, h⟩ | ⟨hc1420, h⟩
         ·refine WC.condT' rfl hc1420 ?_
          refine WC.region ?_
          refine WL.y (Y.move rfl) rfl ?_
          refine WL.y (Y.nilCheck rfl) rfl ?_
          refine WL.y (Y.fieldAddr fo117_1 rfl) rfl ?_
          have hf1421 := hf1394.st hst1417 rfl
          refine WL.store (v := vi 2) (cells' := [Value.pointer (some ⟨p23, 0, none⟩), vi 2]) ty32 rfl rfl hf1421 rfl (Nat.le_of_ble_eq_true rfl) rfl rfl ?_
          intro wd1422 hst1423 hb1424
          refine WL.nil ?_
          refine At.then ?_
          refine WC.seq ?_
          refine WC.region ?_
          refine WL.y (Y.move rfl) rfl ?_
          refine WL.y (Y.conv_ui ty22.u ty3.u rfl) rfl ?_
          obtain ⟨t1425, ht1425, h⟩ := lt1 h
          refine WL.yE (Y.assign rfl) (congrArg vi ht1425.symm) rfl ?_
          refine WL.nil ?_
          refine At.then ?_
          refine WC.ret ?_
          have hf1426 := hf1418.mono (imm_st hst1423 rfl rfl)
          have hf1427 := hb1419.st hst1423 rfl
          exact At.res (.inl rfl) rfl (.tmp rfl .nil) ⟨(r1406.b, r1406.n, r1406.at_, 2, t1425, O1414, z1408), ⟨some1 h, (Stp.trans (Stp.up hst1417 rfl) (Stp.up hst1423 rfl)), hf1426, hf1427, hb1424⟩, rfl⟩
         ·refine WC.condF' rfl hc1420 ?_
          refine WC.skip ?_
          refine At.then ?_
          refine WC.seq ?_
          refine WC.region ?_
          refine WL.y (Y.move rfl) rfl ?_
          refine WL.y (Y.conv_ui ty22.u ty3.u rfl) rfl ?_
          obtain ⟨t1428, ht1428, h⟩ := lt1 h
          refine WL.yE (Y.assign rfl) (congrArg vi ht1428.symm) rfl ?_
          refine WL.nil ?_
          refine At.then ?_
          refine WC.ret ?_
          have hf1429 := hf1394.st hst1417 rfl
          exact At.res (.inl rfl) rfl (.tmp rfl .nil) ⟨(r1406.b, r1406.n, r1406.at_, c1070, t1428, O1414, z1408), ⟨some1 h, (Stp.up hst1417 rfl), hf1418, hb1419, hf1429⟩, rfl⟩
       ·rintro ⟨c1381, c1384, c1385, c1386, x1387, O1388, v1382⟩ wd1389 ⟨rfl, hst1390, hf1383, hb1380, hb1379⟩
        replace h := hk1392
        try dsimp only at h hst1390 hf1383 hb1380 hb1379
        refine (show WL _ _ _ _ _ ((5, vi x1387) :: _) _ from ?_)
        refine WL.y (Y.assign rfl) rfl ?_
        refine WL.nil ?_
        refine At.then ?_
        refine WC.seq ?_
        obtain ⟨p1435, h, hk1436⟩ := bnd h
        refine WC.join (σ := (Int × Own)) (fun x w' => x.1 = p1435 ∧ Stp [13] O1388 wd1389 x.2 w' ∧ Blk 13 x.2 w' p37 117 [Value.pointer (some ⟨p23, 0, none⟩), vi x.1]) (fun x => [(0, Value.pointer (some ⟨p37, 0, none⟩)), (2, Value.pointer (some ⟨p1375, 0, none⟩)), (3, vi x1387)]) ?_ ?_
        ·refine WC.seq ?_
         refine WC.region ?_
         refine WL.y (Y.move rfl) rfl ?_
         refine WL.y (Y.nilCheck rfl) rfl ?_
         refine WL.y (Y.fieldAddr fo117_1 rfl) rfl ?_
         refine WL.y (Y.loadSc ty32 rfl rfl (hb1379.cell 1 _ rfl)) rfl ?_
         refine WL.y (Y.eql_i rfl rfl) rfl ?_
         refine WL.y (Y.move rfl) rfl ?_
         refine WL.cut 3 (σ := Unit) (fun _ w' => wd1389 = w') (fun _ => [(0, Value.pointer (some ⟨p37, 0, none⟩)), (2, Value.pointer (some ⟨p1375, 0, none⟩)), (3, vi x1387), (14, Value.bool ((decide (c1386 = 0)) && (decide (160 < x1387))))]) ?_ ?_
         ·refine WL.part 11 rfl (fun hE1437 => ?_) (fun hE1437 => ?_)
          ·refine WL.ung rfl rfl ?_
           refine WL.y (Y.move rfl) rfl ?_
           refine WL.ung rfl rfl ?_
           refine WL.y (Y.gtr_i rfl rfl) rfl ?_
           refine WL.y (Y.pick (b := true) rfl rfl) rfl ?_
           refine WL.ren (v' := Value.bool ((decide (c1386 = 0)) && (decide (160 < x1387)))) 14 rfl (congrArg Value.bool (andT hE1437)) ?_
           exact WL.nil (At.join () rfl (.cons rfl (.cons rfl (.cons rfl (.cons rfl .nil)))))
          ·refine WL.gS rfl rfl rfl rfl ?_
           refine WL.gS rfl rfl rfl rfl ?_
           refine WL.y (Y.pick (b := false) rfl rfl) rfl ?_
           refine WL.ren (v' := Value.bool ((decide (c1386 = 0)) && (decide (160 < x1387)))) 14 rfl (congrArg Value.bool (andF hE1437)) ?_
           exact WL.nil (At.join () rfl (.cons rfl (.cons rfl (.cons rfl (.cons rfl .nil)))))
         ·rintro _ _ rfl
          refine (show WL _ _ _ _ _ [(0, Value.pointer (some ⟨p37, 0, none⟩)), (2, Value.pointer (some ⟨p1375, 0, none⟩)), (3, vi x1387), (14, Value.bool ((decide (c1386 = 0)) && (decide (160 < x1387))))] _ from ?_)
          refine WL.nil ?_
          refine At.then ?_
          rcases cnd h with ⟨hc1438, h⟩ | ⟨hc1438, h⟩
          ·refine WC.condT' rfl hc1438 ?_
           refine WC.region ?_
           refine WL.y (Y.move rfl) rfl ?_
           refine WL.y (Y.nilCheck rfl) rfl ?_
           refine WL.y (Y.fieldAddr fo117_1 rfl) rfl ?_
           refine WL.store (v := vi 4) (cells' := [Value.pointer (some ⟨p23, 0, none⟩), vi 4]) ty32 rfl rfl hb1379 rfl (Nat.le_of_ble_eq_true rfl) rfl rfl ?_
           intro wd1439 hst1440 hb1441
           refine WL.nil ?_
           exact At.join (σ := (Int × Own)) (4, O1388) ⟨some1 h, (Stp.up hst1440 rfl), hb1441⟩ (.cons rfl (.cons rfl (.cons rfl .nil)))
          ·refine WC.condF' rfl hc1438 ?_
           refine WC.skip ?_
           exact At.join (σ := (Int × Own)) (c1386, O1388) ⟨some1 h, (Stp.refl _ _ _), hb1379⟩ (.cons rfl (.cons rfl (.cons rfl .nil)))
        ·rintro ⟨c1431, O1432⟩ wd1433 ⟨rfl, hst1434, hb1430⟩
         replace h := hk1436
         try dsimp only at h hst1434 hb1430
         refine (show At _ _ _ [(0, Value.pointer (some ⟨p37, 0, none⟩)), (2, Value.pointer (some ⟨p1375, 0, none⟩)), (3, vi x1387)] _ from ?_)
         refine At.then ?_
         refine WC.seq ?_
         refine WC.seq ?_
         refine WC.region ?_
         refine WL.y (Y.move rfl) rfl ?_
         refine WL.y (Y.nilCheck rfl) rfl ?_
         refine WL.y (Y.fieldAddr fo117_1 rfl) rfl ?_
         refine WL.y (Y.loadSc ty32 rfl rfl (hb1430.cell 1 _ rfl)) rfl ?_
         refine WL.y (Y.neq_i rfl rfl) rfl ?_
         refine WL.y (Y.move rfl) rfl ?_
         refine WL.cut 3 (σ := Unit) (fun _ w' => wd1433 = w') (fun _ => [(0, Value.pointer (some ⟨p37, 0, none⟩)), (2, Value.pointer (some ⟨p1375, 0, none⟩)), (3, vi x1387), (26, Value.bool ((!decide (c1431 = 0)) || (decide (x1387 = 0))))]) ?_ ?_
         ·refine WL.part 23 rfl (fun hE1442 => ?_) (fun hE1442 => ?_)
          ·refine WL.gS rfl rfl rfl rfl ?_
           refine WL.gS rfl rfl rfl rfl ?_
           refine WL.y (Y.pick (b := true) rfl rfl) rfl ?_
           refine WL.ren (v' := Value.bool ((!decide (c1431 = 0)) || (decide (x1387 = 0)))) 26 rfl (congrArg Value.bool (orT hE1442)) ?_
           exact WL.nil (At.join () rfl (.cons rfl (.cons rfl (.cons rfl (.cons rfl .nil)))))
          ·refine WL.ung rfl rfl ?_
           refine WL.y (Y.move rfl) rfl ?_
           refine WL.ung rfl rfl ?_
           refine WL.y (Y.eql_i rfl rfl) rfl ?_
           refine WL.y (Y.pick (b := false) rfl rfl) rfl ?_
           refine WL.ren (v' := Value.bool ((!decide (c1431 = 0)) || (decide (x1387 = 0)))) 26 rfl (congrArg Value.bool (orF hE1442)) ?_
           exact WL.nil (At.join () rfl (.cons rfl (.cons rfl (.cons rfl (.cons rfl .nil)))))
         ·rintro _ _ rfl
          refine (show WL _ _ _ _ _ [(0, Value.pointer (some ⟨p37, 0, none⟩)), (2, Value.pointer (some ⟨p1375, 0, none⟩)), (3, vi x1387), (26, Value.bool ((!decide (c1431 = 0)) || (decide (x1387 = 0))))] _ from ?_)
          refine WL.nil ?_
          refine At.then ?_
          rcases cnd h with ⟨hc1443, h⟩ | ⟨hc1443, h⟩
          ·refine WC.condT' rfl hc1443 ?_
           refine WC.seq ?_
           refine WC.region ?_
           refine WL.y (Y.build (vals := []) (cells := [vi 0, Value.slice none 0 0]) (Fits.evalp rfl) (by kernel_rfl)) rfl ?_
           have hf1444 := hb1374.st hst1390 rfl
           have hf1445 := hf1444.st hst1434 rfl
           refine WL.store (v := Value.agg (List.toArray [vi 0, Value.slice none 0 0])) (cells' := [vi 0, Value.slice none 0 0]) ty25 rfl rfl hf1445 rfl (Nat.le_of_ble_eq_true rfl) rfl rfl ?_
           intro wd1446 hst1447 hb1448
           refine WL.nil ?_
           refine At.then ?_
           refine WC.ret ?_
           refine At.thenR ?_
           have hf1449 := hf1383.mono (imm_st hst1434 rfl rfl)
           have hf1450 := hf1449.mono (imm_st hst1447 rfl rfl)
           have hf1451 := hb1380.st hst1434 rfl
           have hf1452 := hf1451.st hst1447 rfl
           have hf1453 := hb1430.st hst1447 rfl
           exact At.res (.inl rfl) rfl (.cell rfl (hb1448.runAg 0 [vi 0, Value.slice none 0 0] ty25 rfl rfl rfl) .nil) ⟨(c1381, c1384, c1385, c1431, 0, [], O1432, v1382, Value.slice none 0 0), ⟨some1 h, (Stp.trans (Stp.up hst1378 rfl) (Stp.trans (Stp.up hst1390 rfl) (Stp.trans (Stp.up hst1434 rfl) (Stp.up hst1447 rfl)))), hf1450, hf1452, hf1453, (OwnSl.nil 1018 Rep.u 22)⟩, rfl⟩
          ·refine WC.condF' rfl hc1443 ?_
           refine WC.skip ?_
           refine At.then ?_
           refine WC.seq ?_
           refine WC.drawH [12, 13, 26, 27] [0, 1, 2, 3, 4] O1432 6 fmix rfl (by kernel_rfl) ?_
           intro wd1454 hst1455
           refine WD.y 0 rfl (by kernel_rfl) (fun _ _ _ => Y.move rfl) rfl ?_
           refine WD.y 2 rfl (by kernel_rfl) (fun _ _ _ => Y.move rfl) rfl ?_
           obtain ⟨p1477, h, hk1478⟩ := bnd h
           refine WD.join (σ := (Int × List UInt64 × List UInt8 × Int × Int × Int × Own × Value × Value)) (f' := 1) [4, 3, 2, 1, 0] (fun x O' w' => (x.1, x.2.1, x.2.2.1, x.2.2.2.1, x.2.2.2.2.1, x.2.2.2.2.2.1) = p1477 ∧ Stp [12, 13, 26, 27] O1432 wd1454 x.2.2.2.2.2.2.1 w' ∧ OwnSl 1016 Rep.u 22 x.2.2.2.2.2.2.1 w' x.2.2.2.2.2.2.2.1 x.2.1 ∧ Sl Rep.b w' (imm x.2.2.2.2.2.2.1) x.2.2.2.2.2.2.2.2 x.2.2.1 ∧ Blk 12 x.2.2.2.2.2.2.1 w' p23 107 [x.2.2.2.2.2.2.2.2, vi x.2.2.2.1, vi x.2.2.2.2.1] ∧ Blk 13 x.2.2.2.2.2.2.1 w' p37 117 [Value.pointer (some ⟨p23, 0, none⟩), vi x.2.2.2.2.2.1] ∧ x.2.2.2.2.2.2.1 = O') (fun x => [(2, Value.pointer (some ⟨p1375, 0, none⟩)), (32, Value.agg (List.toArray [vi x.1, x.2.2.2.2.2.2.2.1]))]) (fun hJ1479 => ?_) ?_
           ·refine WD.heavy2 1 3 rfl rfl (by kernel_rfl) ?_ ?_
            ·obtain ⟨p1492, h, hk1493⟩ := bnd h
             refine WL.callJ (vals := [Value.pointer (some ⟨p37, 0, none⟩)]) (σ := (List UInt8 × Int × Int × Int × Int × Own × Value)) (fun x w' => (x.1, x.2.1, x.2.2.1, x.2.2.2.1, x.2.2.2.2.1) = p1492 ∧ Stp [12, 13] O1432 wd1454 x.2.2.2.2.2.1 w' ∧ Sl Rep.b w' (imm x.2.2.2.2.2.1) x.2.2.2.2.2.2 x.1 ∧ Blk 12 x.2.2.2.2.2.1 w' p23 107 [x.2.2.2.2.2.2, vi x.2.1, vi x.2.2.1] ∧ Blk 13 x.2.2.2.2.2.1 w' p37 117 [Value.pointer (some ⟨p23, 0, none⟩), vi x.2.2.2.1]) (fun x => vi x.2.2.2.2.1) kok85 rfl rfl ?_ ?_
             ·refine Rets.enter Try.func85 rfl rfl ?_
              refine (show WC _ _ _ _ [(0, Value.pointer (some ⟨p37, 0, none⟩))] _ from ?_)
              refine WC.seq ?_
              refine WC.region ?_
              refine WL.y (Y.assign rfl) rfl ?_
              refine WL.nil ?_
              refine At.then ?_
              refine WC.seq ?_
              refine WC.seq ?_
              refine WC.region ?_
              refine WL.y (Y.move rfl) rfl ?_
              refine WL.y (Y.nilCheck rfl) rfl ?_
              refine WL.y (Y.fieldAddr fo117_1 rfl) rfl ?_
              have hf1494 := hb1430.st hst1455 rfl
              refine WL.y (Y.loadSc ty32 rfl rfl (hf1494.cell 1 _ rfl)) rfl ?_
              refine WL.y (Y.neq_i rfl rfl) rfl ?_
              refine WL.nil ?_
              refine At.then ?_
              rcases cnd h with ⟨hc1495, h⟩ | ⟨hc1495, h⟩
              ·refine WC.condT' rfl hc1495 ?_
               refine WC.seq ?_
               refine WC.region ?_
               refine WL.y (Y.assign rfl) rfl ?_
               refine WL.nil ?_
               refine At.then ?_
               refine WC.ret ?_
               refine At.thenR ?_
               have hf1496 := hf1383.mono (imm_st hst1434 rfl rfl)
               have hf1497 := hf1496.mono (imm_st hst1455 rfl rfl)
               have hf1498 := hb1380.st hst1434 rfl
               have hf1499 := hf1498.st hst1455 rfl
               exact At.res (.inl rfl) rfl (.tmp rfl .nil) ⟨(c1381, c1384, c1385, c1431, 0, O1432, v1382), ⟨some1 h, (Stp.refl _ _ _), hf1497, hf1499, hf1494⟩, rfl⟩
              ·refine WC.condF' rfl hc1495 ?_
               refine WC.skip ?_
               refine At.then ?_
               refine WC.seq ?_
               refine WC.region ?_
               refine WL.y (Y.move rfl) rfl ?_
               refine WL.y (Y.nilCheck rfl) rfl ?_
               refine WL.y (Y.fieldAddr fo117_0 rfl) rfl ?_
               refine WL.y (Y.loadSc ty61 rfl rfl (hf1494.cell 0 _ rfl)) rfl ?_
               have hf1500 := hb1380.st hst1434 rfl
               have hf1501 := hf1500.st hst1455 rfl
               have hf1502 := hf1383.mono (imm_st hst1434 rfl rfl)
               have hf1503 := hf1502.mono (imm_st hst1455 rfl rfl)
               obtain ⟨⟨r1504, r1505, r1506⟩, hp1507, h⟩ := bnd h
               refine WL.call (vals := [Value.pointer (some ⟨p23, 0, none⟩)]) kok105 rfl rfl (c_vary_GetInt (A := imm O1432) (a0 := (bitio_Reader.mk c1381 c1384 c1385)) hf1503 hf1501.blk (fun k hk => imm_ne hf1501.lab rfl k hk) hp1507) ?_
               rintro vr1513 wd1512 ⟨z1508, rfl, hm1511, f1509, f1510⟩
               obtain ⟨O1514, hold1515, hnew1516, hst1517⟩ := adopt O1432 (fun k => 1) [12] hm1511 (memB hf1501.lab rfl)
               have hf1518 : Sl Rep.b wd1512 (imm O1514) z1508 r1506.b := Sl.adoptI (O := O1432) f1509 (fun _ hk => hk) (fun _ _ => Nat.le_refl _) hold1515 hnew1516
               have hb1519 : Blk 12 O1514 wd1512 p23 107 [z1508, vi r1506.n, vi r1506.at_] := Blk.adopt hf1501 hold1515 f1510
               refine WL.y (Y.move rfl) rfl ?_
               refine WL.y (Y.extract rfl rfl) rfl ?_
               refine WL.y (Y.extract rfl rfl) rfl ?_
               refine WL.y (Y.assign rfl) rfl ?_
               refine WL.y (Y.assign rfl) rfl ?_
               refine WL.nil ?_
               refine At.then ?_
               refine WC.seq ?_
               refine WC.region ?_
               refine WL.y (Y.move rfl) rfl ?_
               refine WL.y (Y.move rfl) rfl ?_
               refine WL.y (Y.nilCheck rfl) rfl ?_
               refine WL.y (Y.fieldAddr fo117_1 rfl) rfl ?_
               have hf1520 := hf1494.st hst1517 rfl
               refine WL.store (v := vi r1505) (cells' := [Value.pointer (some ⟨p23, 0, none⟩), vi r1505]) ty32 rfl rfl hf1520 rfl (Nat.le_of_ble_eq_true rfl) rfl rfl ?_
               intro wd1521 hst1522 hb1523
               refine WL.nil ?_
               refine At.then ?_
               refine WC.seq ?_
               refine WC.region ?_
               refine WL.y (Y.move rfl) rfl ?_
               refine WL.y (Y.assign rfl) rfl ?_
               refine WL.nil ?_
               refine At.then ?_
               refine WC.ret ?_
               have hf1524 := hf1518.mono (imm_st hst1522 rfl rfl)
               have hf1525 := hb1519.st hst1522 rfl
               exact At.res (.inl rfl) rfl (.tmp rfl .nil) ⟨(r1506.b, r1506.n, r1506.at_, r1505, r1504, O1514, z1508), ⟨some1 h, (Stp.trans (Stp.up hst1517 rfl) (Stp.up hst1522 rfl)), hf1524, hf1525, hb1523⟩, rfl⟩
             ·rintro ⟨c1481, c1484, c1485, c1487, x1488, O1489, v1482⟩ wd1490 ⟨rfl, hst1491, hf1483, hb1480, hb1486⟩
              replace h := hk1493
              try dsimp only at h hst1491 hf1483 hb1480 hb1486
              refine (show WL _ _ _ _ _ ((29, vi x1488) :: _) _ from ?_)
              refine WL.nil ?_
              refine At.dq (Stp.up hst1491 rfl) ?_
              refine WD.heavy 3 rfl (by kernel_rfl) ?_
              obtain ⟨t1526, ht1526, h⟩ := bnd h
              refine WL.make (O := O1489) (R := Rep.u) (zx := (0 : UInt64)) 26 (by decide) ty23 ty22 rfl (by decide) (by decide) rfl rfl (fun _ _ => rfl) ht1526 rfl ?_
              intro v1527 O1529 wd1530 hst1531 ho1528
              refine WL.nil ?_
              refine At.dq (Stp.up hst1531 rfl) ?_
              have hh1535 := h
              obtain ⟨p1532, m1533, c1534, rfl⟩ := ho1528.shape
              have h := hh1535
              refine WD.y 4 rfl (by kernel_rfl) (fun _ _ _ => Y.build (vals := [(0, vi x1488), (1, (Value.slice p1532 m1533 c1534))]) (cells := [vi x1488, (Value.slice p1532 m1533 c1534)]) (Fits.evalp rfl) (by kernel_rfl)) rfl ?_
              obtain ⟨O1539, hst1540, ho1541⟩ := OwnSl.rlb 1016 rfl ho1528
              have hf1542 := hf1483.mono (imm_st hst1531 rfl rfl)
              have hf1543 := hf1542.mono (imm_st hst1540 rfl rfl)
              have hf1544 := hb1480.st hst1531 rfl
              have hf1545 := hf1544.st hst1540 rfl
              have hf1546 := hb1486.st hst1531 rfl
              have hf1547 := hf1546.st hst1540 rfl
              refine WD.own (Stp.up hst1540 rfl) ?_
              refine WD.perm _ [4, 3, 2, 1, 0] (by kernel_rfl) ?_
              exact hJ1479 (x1488, t1526, c1481, c1484, c1485, c1487, O1539, (Value.slice p1532 m1533 c1534), v1482) _ _ _ ⟨some1 h, (Stp.trans (Stp.up hst1491 rfl) (Stp.trans (Stp.up hst1531 rfl) (Stp.up hst1540 rfl))), ho1541, hf1543, hf1545, hf1547, rfl⟩ (.cons rfl (.cons rfl .nil))
            ·replace h := bswap h
             obtain ⟨t1548, ht1548, h⟩ := bnd h
             refine WL.make (O := O1432) (R := Rep.u) (zx := (0 : UInt64)) 27 (by decide) ty23 ty22 rfl (by decide) (by decide) rfl rfl (fun _ _ => rfl) ht1548 rfl ?_
             intro v1549 O1551 wd1552 hst1553 ho1550
             refine WL.nil ?_
             refine At.dq (Stp.up hst1553 rfl) ?_
             refine WD.heavy 1 rfl (by kernel_rfl) ?_
             obtain ⟨p1566, h, hk1567⟩ := bnd h
             refine WL.callJ (vals := [Value.pointer (some ⟨p37, 0, none⟩)]) (σ := (List UInt8 × Int × Int × Int × Int × Own × Value)) (fun x w' => (x.1, x.2.1, x.2.2.1, x.2.2.2.1, x.2.2.2.2.1) = p1566 ∧ Stp [12, 13] O1551 wd1552 x.2.2.2.2.2.1 w' ∧ Sl Rep.b w' (imm x.2.2.2.2.2.1) x.2.2.2.2.2.2 x.1 ∧ Blk 12 x.2.2.2.2.2.1 w' p23 107 [x.2.2.2.2.2.2, vi x.2.1, vi x.2.2.1] ∧ Blk 13 x.2.2.2.2.2.1 w' p37 117 [Value.pointer (some ⟨p23, 0, none⟩), vi x.2.2.2.1]) (fun x => vi x.2.2.2.2.1) kok85 rfl rfl ?_ ?_
             ·refine Rets.enter Try.func85 rfl rfl ?_
              refine (show WC _ _ _ _ [(0, Value.pointer (some ⟨p37, 0, none⟩))] _ from ?_)
              refine WC.seq ?_
              refine WC.region ?_
              refine WL.y (Y.assign rfl) rfl ?_
              refine WL.nil ?_
              refine At.then ?_
              refine WC.seq ?_
              refine WC.seq ?_
              refine WC.region ?_
              refine WL.y (Y.move rfl) rfl ?_
              refine WL.y (Y.nilCheck rfl) rfl ?_
              refine WL.y (Y.fieldAddr fo117_1 rfl) rfl ?_
              have hf1568 := hb1430.st hst1455 rfl
              have hf1569 := hf1568.st hst1553 rfl
              refine WL.y (Y.loadSc ty32 rfl rfl (hf1569.cell 1 _ rfl)) rfl ?_
              refine WL.y (Y.neq_i rfl rfl) rfl ?_
              refine WL.nil ?_
              refine At.then ?_
              rcases cnd h with ⟨hc1570, h⟩ | ⟨hc1570, h⟩
              ·refine WC.condT' rfl hc1570 ?_
               refine WC.seq ?_
               refine WC.region ?_
               refine WL.y (Y.assign rfl) rfl ?_
               refine WL.nil ?_
               refine At.then ?_
               refine WC.ret ?_
               refine At.thenR ?_
               have hf1571 := hf1383.mono (imm_st hst1434 rfl rfl)
               have hf1572 := hf1571.mono (imm_st hst1455 rfl rfl)
               have hf1573 := hf1572.mono (imm_st hst1553 rfl rfl)
               have hf1574 := hb1380.st hst1434 rfl
               have hf1575 := hf1574.st hst1455 rfl
               have hf1576 := hf1575.st hst1553 rfl
               exact At.res (.inl rfl) rfl (.tmp rfl .nil) ⟨(c1381, c1384, c1385, c1431, 0, O1551, v1382), ⟨some1 h, (Stp.refl _ _ _), hf1573, hf1576, hf1569⟩, rfl⟩
              ·refine WC.condF' rfl hc1570 ?_
               refine WC.skip ?_
               refine At.then ?_
               refine WC.seq ?_
               refine WC.region ?_
               refine WL.y (Y.move rfl) rfl ?_
               refine WL.y (Y.nilCheck rfl) rfl ?_
               refine WL.y (Y.fieldAddr fo117_0 rfl) rfl ?_
               refine WL.y (Y.loadSc ty61 rfl rfl (hf1569.cell 0 _ rfl)) rfl ?_
               have hf1577 := hb1380.st hst1434 rfl
               have hf1578 := hf1577.st hst1455 rfl
               have hf1579 := hf1578.st hst1553 rfl
               have hf1580 := hf1383.mono (imm_st hst1434 rfl rfl)
               have hf1581 := hf1580.mono (imm_st hst1455 rfl rfl)
               have hf1582 := hf1581.mono (imm_st hst1553 rfl rfl)
               obtain ⟨⟨r1583, r1584, r1585⟩, hp1586, h⟩ := bnd h
               refine WL.call (vals := [Value.pointer (some ⟨p23, 0, none⟩)]) kok105 rfl rfl (c_vary_GetInt (A := imm O1551) (a0 := (bitio_Reader.mk c1381 c1384 c1385)) hf1582 hf1579.blk (fun k hk => imm_ne hf1579.lab rfl k hk) hp1586) ?_
               rintro vr1592 wd1591 ⟨z1587, rfl, hm1590, f1588, f1589⟩
               obtain ⟨O1593, hold1594, hnew1595, hst1596⟩ := adopt O1551 (fun k => 1) [12] hm1590 (memB hf1579.lab rfl)
               have hf1597 : Sl Rep.b wd1591 (imm O1593) z1587 r1585.b := Sl.adoptI (O := O1551) f1588 (fun _ hk => hk) (fun _ _ => Nat.le_refl _) hold1594 hnew1595
               have hb1598 : Blk 12 O1593 wd1591 p23 107 [z1587, vi r1585.n, vi r1585.at_] := Blk.adopt hf1579 hold1594 f1589
               refine WL.y (Y.move rfl) rfl ?_
               refine WL.y (Y.extract rfl rfl) rfl ?_
               refine WL.y (Y.extract rfl rfl) rfl ?_
               refine WL.y (Y.assign rfl) rfl ?_
               refine WL.y (Y.assign rfl) rfl ?_
               refine WL.nil ?_
               refine At.then ?_
               refine WC.seq ?_
               refine WC.region ?_
               refine WL.y (Y.move rfl) rfl ?_
               refine WL.y (Y.move rfl) rfl ?_
               refine WL.y (Y.nilCheck rfl) rfl ?_
               refine WL.y (Y.fieldAddr fo117_1 rfl) rfl ?_
               have hf1599 := hf1569.st hst1596 rfl
               refine WL.store (v := vi r1584) (cells' := [Value.pointer (some ⟨p23, 0, none⟩), vi r1584]) ty32 rfl rfl hf1599 rfl (Nat.le_of_ble_eq_true rfl) rfl rfl ?_
               intro wd1600 hst1601 hb1602
               refine WL.nil ?_
               refine At.then ?_
               refine WC.seq ?_
               refine WC.region ?_
               refine WL.y (Y.move rfl) rfl ?_
               refine WL.y (Y.assign rfl) rfl ?_
               refine WL.nil ?_
               refine At.then ?_
               refine WC.ret ?_
               have hf1603 := hf1597.mono (imm_st hst1601 rfl rfl)
               have hf1604 := hb1598.st hst1601 rfl
               exact At.res (.inl rfl) rfl (.tmp rfl .nil) ⟨(r1585.b, r1585.n, r1585.at_, r1584, r1583, O1593, z1587), ⟨some1 h, (Stp.trans (Stp.up hst1596 rfl) (Stp.up hst1601 rfl)), hf1603, hf1604, hb1602⟩, rfl⟩
             ·rintro ⟨c1555, c1558, c1559, c1561, x1562, O1563, v1556⟩ wd1564 ⟨rfl, hst1565, hf1557, hb1554, hb1560⟩
              replace h := hk1567
              try dsimp only at h hst1565 hf1557 hb1554 hb1560
              refine (show WL _ _ _ _ _ ((29, vi x1562) :: _) _ from ?_)
              refine WL.nil ?_
              refine At.dq (Stp.up hst1565 rfl) ?_
              have hf1605 := ho1550.st hst1565 rfl rfl rfl
              have hh1609 := h
              obtain ⟨p1606, m1607, c1608, rfl⟩ := hf1605.shape
              have h := hh1609
              refine WD.y 4 rfl (by kernel_rfl) (fun _ _ _ => Y.build (vals := [(0, vi x1562), (1, (Value.slice p1606 m1607 c1608))]) (cells := [vi x1562, (Value.slice p1606 m1607 c1608)]) (Fits.evalp rfl) (by kernel_rfl)) rfl ?_
              obtain ⟨O1613, hst1614, ho1615⟩ := OwnSl.rlb 1016 rfl hf1605
              have hf1616 := hf1557.mono (imm_st hst1614 rfl rfl)
              have hf1617 := hb1554.st hst1614 rfl
              have hf1618 := hb1560.st hst1614 rfl
              refine WD.own (Stp.up hst1614 rfl) ?_
              refine WD.perm _ [4, 3, 2, 1, 0] (by kernel_rfl) ?_
              exact hJ1479 (x1562, t1548, c1555, c1558, c1559, c1561, O1613, (Value.slice p1606 m1607 c1608), v1556) _ _ _ ⟨some1 h, (Stp.trans (Stp.up hst1553 rfl) (Stp.trans (Stp.up hst1565 rfl) (Stp.up hst1614 rfl))), ho1615, hf1616, hf1617, hf1618, rfl⟩ (.cons rfl (.cons rfl .nil))
           ·rintro ⟨x1462, x1463, c1467, c1470, c1471, c1473, O1474, v1464, v1468⟩ _ wd1475 ⟨rfl, hst1476, hf1465, hf1469, hb1466, hb1472, rfl⟩
            replace h := hk1478
            try dsimp only at h hst1476 hf1465 hf1469 hb1466 hb1472
            refine (show WD _ _ _ _ _ _ _ _ [(2, Value.pointer (some ⟨p1375, 0, none⟩)), (32, Value.agg (List.toArray [vi x1462, v1464]))] _ _ from ?_)
            refine WD.phase [25] [0, 1, 2, 3, 4, 5] (by kernel_rfl) (by kernel_rfl) ?_
            refine WD.heavy 5 rfl (by kernel_rfl) ?_
            have hh1622 := h
            obtain ⟨p1619, m1620, c1621, rfl⟩ := hf1465.shape
            have h := hh1622
            have hf1623 := hb1374.st hst1390 rfl
            have hf1624 := hf1623.st hst1434 rfl
            have hf1625 := hf1624.st hst1455 rfl
            have hf1626 := hf1625.st hst1476 rfl
            refine WL.store (v := Value.agg (List.toArray [vi x1462, (Value.slice p1619 m1620 c1621)])) (cells' := [vi x1462, (Value.slice p1619 m1620 c1621)]) ty25 rfl rfl hf1626 rfl (Nat.le_of_ble_eq_true rfl) rfl rfl ?_
            intro wd1627 hst1628 hb1629
            refine WL.nil ?_
            refine At.dq (Stp.up hst1628 rfl) ?_
            refine WD.done_ (by kernel_rfl) ?_
            refine At.then ?_
            refine WC.ret ?_
            have hf1630 := hf1465.st hst1628 rfl rfl rfl
            obtain ⟨O1631, hst1632, ho1633⟩ := OwnSl.rlb 1018 rfl hf1630
            have hf1634 := hf1469.mono (imm_st hst1628 rfl rfl)
            have hf1635 := hf1634.mono (imm_st hst1632 rfl rfl)
            have hf1636 := hb1466.st hst1628 rfl
            have hf1637 := hf1636.st hst1632 rfl
            have hf1638 := hb1472.st hst1628 rfl
            have hf1639 := hf1638.st hst1632 rfl
            have hf1640 := hb1629.st hst1632 rfl
            exact At.res (.inl rfl) rfl (.cell rfl (hf1640.runAg 0 [vi x1462, (Value.slice p1619 m1620 c1621)] ty25 rfl rfl rfl) .nil) ⟨(c1467, c1470, c1471, c1473, x1462, x1463, O1631, v1468, (Value.slice p1619 m1620 c1621)), ⟨some1 h, (Stp.trans (Stp.up hst1378 rfl) (Stp.trans (Stp.up hst1390 rfl) (Stp.trans (Stp.up hst1434 rfl) (Stp.trans (Stp.up hst1455 rfl) (Stp.trans (Stp.up hst1476 rfl) (Stp.trans (Stp.up hst1628 rfl) (Stp.up hst1632 rfl))))))), hf1635, hf1637, hf1639, ho1633⟩, rfl⟩
      ·rintro ⟨c1358, c1361, c1362, c1364, x1365, x1366, O1369, v1359, v1367⟩ wd1370 ⟨rfl, hst1371, hf1360, hb1357, hb1363, hf1368⟩
       replace h := hk1373
       try dsimp only at h hst1371 hf1360 hb1357 hb1363 hf1368
       refine (show WL _ _ _ _ _ ((43, Value.agg (List.toArray [vi x1365, v1367])) :: _) _ from ?_)
       refine WL.y (Y.fieldAddr fo27_3 rfl) rfl ?_
       have hh1644 := h
       obtain ⟨p1641, m1642, c1643, rfl⟩ := hf1368.shape
       have h := hh1644
       have hf1645 := hb1354.st hst1371 rfl
       refine WL.store (v := Value.agg (List.toArray [vi x1365, (Value.slice p1641 m1642 c1643)])) (cells' := [vi t1055, vu 0, vi x1071, (Value.slice p1347 m1348 c1349), vi x1365, (Value.slice p1641 m1642 c1643)]) ty25 rfl rfl hf1645 rfl (Nat.le_of_ble_eq_true rfl) rfl rfl ?_
       intro wd1646 hst1647 hb1648
       refine WL.nil ?_
       refine At.then ?_
       refine WC.seq ?_
       refine WC.region ?_
       have hf1649 := hf1356.st hst1371 rfl
       have hf1650 := hf1649.st hst1647 rfl
       refine WL.y (Y.loadSc ty115 rfl rfl (hf1650.cell 0 _ rfl)) rfl ?_
       refine WL.y (Y.mkfunc (fv := [Value.pointer (some ⟨p37, 0, none⟩)]) (cv := []) rfl rfl) rfl ?_
       obtain ⟨p1670, h, hk1671⟩ := bnd h
       refine WL.callJ (vals := [Value.pointer (some ⟨p50, 0, none⟩), Value.slice none 0 0, Value.func (.func 87) (List.toArray [Value.pointer (some ⟨p37, 0, none⟩)]) (List.toArray [])]) (σ := (List UInt8 × Int × Int × Int × UInt64 × List UInt64 × List UInt64 × Own × Value)) (fun x w' => (x.1, x.2.1, x.2.2.1, x.2.2.2.1, x.2.2.2.2.1, x.2.2.2.2.2.1, x.2.2.2.2.2.2.1) = p1670 ∧ Stp [12, 13, 15, 30, 1015, 1018, 1019, 1020, 1022, 1023, 1024] O1369 wd1646 x.2.2.2.2.2.2.2.1 w' ∧ Sl Rep.b w' (imm x.2.2.2.2.2.2.2.1) x.2.2.2.2.2.2.2.2 x.1 ∧ Blk 12 x.2.2.2.2.2.2.2.1 w' p23 107 [x.2.2.2.2.2.2.2.2, vi x.2.1, vi x.2.2.1] ∧ Blk 13 x.2.2.2.2.2.2.2.1 w' p37 117 [Value.pointer (some ⟨p23, 0, none⟩), vi x.2.2.2.1] ∧ OwnSl 1028 Rep.u 22 x.2.2.2.2.2.2.2.1 w' (Value.slice p1347 m1348 c1349) x.2.2.2.2.2.1 ∧ OwnSl 1029 Rep.u 22 x.2.2.2.2.2.2.2.1 w' (Value.slice p1641 m1642 c1643) x.2.2.2.2.2.2.1 ∧ Blk 15 x.2.2.2.2.2.2.2.1 w' p50 27 [vi t1055, vu x.2.2.2.2.1, vi x1071, (Value.slice p1347 m1348 c1349), vi x1365, (Value.slice p1641 m1642 c1643)]) (fun x => Value.tuple (List.toArray [])) kok83 rfl rfl ?_ ?_
       ·refine Rets.enter Try.func83 rfl rfl ?_
        refine (show WC _ _ _ _ [(0, Value.pointer (some ⟨p50, 0, none⟩)), (1, Value.slice none 0 0), (2, Value.func (.func 87) (List.toArray [Value.pointer (some ⟨p37, 0, none⟩)]) (List.toArray []))] _ from ?_)
        refine WC.seq ?_
        refine WC.region ?_
        refine WL.box (O := O1369) 28 [Value.slice none 0 0] rfl rfl rfl ?_
        intro p1673 O1674 wd1675 hst1676 hb1672
        refine WL.box (O := O1674) 29 [Value.func (.func 87) (List.toArray [Value.pointer (some ⟨p37, 0, none⟩)]) (List.toArray [])] rfl rfl rfl ?_
        intro p1678 O1679 wd1680 hst1681 hb1677
        refine WL.nil ?_
        refine At.then ?_
        refine WC.seq ?_
        refine WC.region ?_
        refine WL.alloc (O := O1679) 30 [vi 0] ty3 rfl rfl ?_
        intro p1683 O1684 wd1685 hst1686 hb1682
        refine WL.store (v := vi 0) (cells' := [vi 0]) ty3 rfl rfl hb1682 rfl (Nat.le_of_ble_eq_true rfl) rfl rfl ?_
        intro wd1687 hst1688 hb1689
        refine WL.nil ?_
        refine At.then ?_
        refine WC.seq ?_
        refine WC.region ?_
        refine WL.y (Y.mkfunc (fv := []) (cv := [Value.pointer (some ⟨p1678, 0, none⟩), Value.pointer (some ⟨p1683, 0, none⟩), Value.pointer (some ⟨p1673, 0, none⟩)]) rfl rfl) rfl ?_
        refine WL.y (Y.assign rfl) rfl ?_
        refine WL.nil ?_
        refine At.then ?_
        refine WC.seq ?_
        refine WC.region ?_
        refine WL.y (Y.move rfl) rfl ?_
        refine WL.y (Y.move rfl) rfl ?_
        obtain ⟨p1704, h, hk1705⟩ := bnd h
        refine WL.callV (fv := []) (cv := [Value.pointer (some ⟨p1678, 0, none⟩), Value.pointer (some ⟨p1683, 0, none⟩), Value.pointer (some ⟨p1673, 0, none⟩)]) (vals := []) (σ := (List UInt8 × Int × Int × Int × Int × UInt64 × Own × Value)) (fun x w' => (x.1, x.2.1, x.2.2.1, x.2.2.2.1, x.2.2.2.2.1, x.2.2.2.2.2.1) = p1704 ∧ Stp [12, 13, 30] O1684 wd1687 x.2.2.2.2.2.2.1 w' ∧ Sl Rep.b w' (imm x.2.2.2.2.2.2.1) x.2.2.2.2.2.2.2 x.1 ∧ Blk 12 x.2.2.2.2.2.2.1 w' p23 107 [x.2.2.2.2.2.2.2, vi x.2.1, vi x.2.2.1] ∧ Blk 13 x.2.2.2.2.2.2.1 w' p37 117 [Value.pointer (some ⟨p23, 0, none⟩), vi x.2.2.2.1] ∧ Blk 30 x.2.2.2.2.2.2.1 w' p1683 3 [vi x.2.2.2.2.1]) (fun x => vu x.2.2.2.2.2.1) kok104 rfl rfl rfl ?_ ?_
        ·refine Rets.enter Try.func104 rfl rfl ?_
         refine (show WC _ _ _ _ [(0, Value.pointer (some ⟨p1678, 0, none⟩)), (1, Value.pointer (some ⟨p1683, 0, none⟩)), (2, Value.pointer (some ⟨p1673, 0, none⟩))] _ from ?_)
         refine WC.seq ?_
         refine WC.region ?_
         refine WL.y (Y.assign (v := vu 0) rfl) rfl ?_
         refine WL.nil ?_
         refine At.then ?_
         refine WC.seq ?_
         refine WC.region ?_
         have hf1706 := hb1677.st hst1686 rfl
         have hf1707 := hf1706.st hst1688 rfl
         refine WL.y (Y.loadSc ty113 rfl rfl (hf1707.cell 0 _ rfl)) rfl ?_
         obtain ⟨p1720, h, hk1721⟩ := bnd h
         refine WL.callV (fv := [Value.pointer (some ⟨p37, 0, none⟩)]) (cv := []) (vals := []) (σ := (List UInt8 × Int × Int × Int × UInt64 × Own × Value)) (fun x w' => (x.1, x.2.1, x.2.2.1, x.2.2.2.1, x.2.2.2.2.1) = p1720 ∧ Stp [12, 13] O1684 wd1687 x.2.2.2.2.2.1 w' ∧ Sl Rep.b w' (imm x.2.2.2.2.2.1) x.2.2.2.2.2.2 x.1 ∧ Blk 12 x.2.2.2.2.2.1 w' p23 107 [x.2.2.2.2.2.2, vi x.2.1, vi x.2.2.1] ∧ Blk 13 x.2.2.2.2.2.1 w' p37 117 [Value.pointer (some ⟨p23, 0, none⟩), vi x.2.2.2.1]) (fun x => vu x.2.2.2.2.1) kok87 rfl rfl rfl ?_ ?_
         ·refine Rets.enter Try.func87 rfl rfl ?_
          refine (show WC _ _ _ _ [(0, Value.pointer (some ⟨p37, 0, none⟩))] _ from ?_)
          refine WC.seq ?_
          refine WC.region ?_
          refine WL.y (Y.assign (v := vu 0) rfl) rfl ?_
          refine WL.nil ?_
          refine At.then ?_
          refine WC.seq ?_
          refine WC.seq ?_
          refine WC.region ?_
          refine WL.y (Y.move rfl) rfl ?_
          refine WL.y (Y.nilCheck rfl) rfl ?_
          refine WL.y (Y.fieldAddr fo117_1 rfl) rfl ?_
          have hf1722 := hb1363.st hst1647 rfl
          have hf1723 := hf1722.st hst1676 rfl
          have hf1724 := hf1723.st hst1681 rfl
          have hf1725 := hf1724.st hst1686 rfl
          have hf1726 := hf1725.st hst1688 rfl
          refine WL.y (Y.loadSc ty32 rfl rfl (hf1726.cell 1 _ rfl)) rfl ?_
          refine WL.y (Y.neq_i rfl rfl) rfl ?_
          refine WL.nil ?_
          refine At.then ?_
          rcases cnd h with ⟨hc1727, h⟩ | ⟨hc1727, h⟩
          ·refine WC.condT' rfl hc1727 ?_
           refine WC.seq ?_
           refine WC.region ?_
           refine WL.y (Y.assign (v := vu 0) rfl) rfl ?_
           refine WL.nil ?_
           refine At.then ?_
           refine WC.ret ?_
           refine At.thenR ?_
           have hf1728 := hf1360.mono (imm_st hst1647 rfl rfl)
           have hf1729 := hf1728.mono (imm_st hst1676 rfl rfl)
           have hf1730 := hf1729.mono (imm_st hst1681 rfl rfl)
           have hf1731 := hf1730.mono (imm_st hst1686 rfl rfl)
           have hf1732 := hf1731.mono (imm_st hst1688 rfl rfl)
           have hf1733 := hb1357.st hst1647 rfl
           have hf1734 := hf1733.st hst1676 rfl
           have hf1735 := hf1734.st hst1681 rfl
           have hf1736 := hf1735.st hst1686 rfl
           have hf1737 := hf1736.st hst1688 rfl
           exact At.res (.inl rfl) rfl (.tmp rfl .nil) ⟨(c1358, c1361, c1362, c1364, 0, O1684, v1359), ⟨some1 h, (Stp.refl _ _ _), hf1732, hf1737, hf1726⟩, rfl⟩
          ·refine WC.condF' rfl hc1727 ?_
           refine WC.skip ?_
           refine At.then ?_
           refine WC.seq ?_
           refine WC.region ?_
           refine WL.y (Y.move rfl) rfl ?_
           refine WL.y (Y.nilCheck rfl) rfl ?_
           refine WL.y (Y.fieldAddr fo117_0 rfl) rfl ?_
           refine WL.y (Y.loadSc ty61 rfl rfl (hf1726.cell 0 _ rfl)) rfl ?_
           have hf1738 := hb1357.st hst1647 rfl
           have hf1739 := hf1738.st hst1676 rfl
           have hf1740 := hf1739.st hst1681 rfl
           have hf1741 := hf1740.st hst1686 rfl
           have hf1742 := hf1741.st hst1688 rfl
           have hf1743 := hf1360.mono (imm_st hst1647 rfl rfl)
           have hf1744 := hf1743.mono (imm_st hst1676 rfl rfl)
           have hf1745 := hf1744.mono (imm_st hst1681 rfl rfl)
           have hf1746 := hf1745.mono (imm_st hst1686 rfl rfl)
           have hf1747 := hf1746.mono (imm_st hst1688 rfl rfl)
           obtain ⟨⟨r1748, r1749, r1750⟩, hp1751, h⟩ := bnd h
           refine WL.call (vals := [Value.pointer (some ⟨p23, 0, none⟩)]) kok106 rfl rfl (c_vary_Get (A := imm O1684) (a0 := (bitio_Reader.mk c1358 c1361 c1362)) hf1747 hf1742.blk (fun k hk => imm_ne hf1742.lab rfl k hk) hp1751) ?_
           rintro vr1757 wd1756 ⟨z1752, rfl, hm1755, f1753, f1754⟩
           obtain ⟨O1758, hold1759, hnew1760, hst1761⟩ := adopt O1684 (fun k => 1) [12] hm1755 (memB hf1742.lab rfl)
           have hf1762 : Sl Rep.b wd1756 (imm O1758) z1752 r1750.b := Sl.adoptI (O := O1684) f1753 (fun _ hk => hk) (fun _ _ => Nat.le_refl _) hold1759 hnew1760
           have hb1763 : Blk 12 O1758 wd1756 p23 107 [z1752, vi r1750.n, vi r1750.at_] := Blk.adopt hf1742 hold1759 f1754
           refine WL.y (Y.move rfl) rfl ?_
           refine WL.y (Y.extract rfl rfl) rfl ?_
           refine WL.y (Y.extract rfl rfl) rfl ?_
           refine WL.y (Y.assign rfl) rfl ?_
           refine WL.y (Y.assign rfl) rfl ?_
           refine WL.nil ?_
           refine At.then ?_
           refine WC.seq ?_
           refine WC.region ?_
           refine WL.y (Y.move rfl) rfl ?_
           refine WL.y (Y.move rfl) rfl ?_
           refine WL.y (Y.nilCheck rfl) rfl ?_
           refine WL.y (Y.fieldAddr fo117_1 rfl) rfl ?_
           have hf1764 := hf1726.st hst1761 rfl
           refine WL.store (v := vi r1749) (cells' := [Value.pointer (some ⟨p23, 0, none⟩), vi r1749]) ty32 rfl rfl hf1764 rfl (Nat.le_of_ble_eq_true rfl) rfl rfl ?_
           intro wd1765 hst1766 hb1767
           refine WL.nil ?_
           refine At.then ?_
           refine WC.seq ?_
           refine WC.region ?_
           refine WL.y (Y.move rfl) rfl ?_
           refine WL.y (Y.assign rfl) rfl ?_
           refine WL.nil ?_
           refine At.then ?_
           refine WC.ret ?_
           have hf1768 := hf1762.mono (imm_st hst1766 rfl rfl)
           have hf1769 := hb1763.st hst1766 rfl
           exact At.res (.inl rfl) rfl (.tmp rfl .nil) ⟨(r1750.b, r1750.n, r1750.at_, r1749, r1748, O1758, z1752), ⟨some1 h, (Stp.trans (Stp.up hst1761 rfl) (Stp.up hst1766 rfl)), hf1768, hf1769, hb1767⟩, rfl⟩
         ·rintro ⟨c1709, c1712, c1713, c1715, x1716, O1717, v1710⟩ wd1718 ⟨rfl, hst1719, hf1711, hb1708, hb1714⟩
          replace h := hk1721
          try dsimp only at h hst1719 hf1711 hb1708 hb1714
          refine (show WL _ _ _ _ _ ((6, vu x1716) :: _) _ from ?_)
          refine WL.y (Y.assign rfl) rfl ?_
          refine WL.nil ?_
          refine At.then ?_
          refine WC.seq ?_
          obtain ⟨p1770, h, hk1771⟩ := bnd h
          refine WC.join (σ := Unit) (fun x w' => () = p1770 ∧ wd1718 = w') (fun x => [(1, Value.pointer (some ⟨p1683, 0, none⟩)), (4, vu x1716)]) ?_ ?_
          ·refine WC.seq ?_
           refine WC.region ?_
           have hf1772 := hb1689.st hst1719 rfl
           refine WL.y (Y.loadSc ty3 rfl rfl (hf1772.cell 0 _ rfl)) rfl ?_
           have hf1773 := hb1672.st hst1681 rfl
           have hf1774 := hf1773.st hst1686 rfl
           have hf1775 := hf1774.st hst1688 rfl
           have hf1776 := hf1775.st hst1719 rfl
           refine WL.y (Y.loadSc ty23 rfl rfl (hf1776.cell 0 _ rfl)) rfl ?_
           refine WL.y (Y.len (R := Rep.u) (xs := []) (A := fun _ => True) ty23 rfl (Or.inl ⟨rfl, rfl⟩)) rfl ?_
           refine WL.y (Y.lss_i rfl rfl) rfl ?_
           refine WL.nil ?_
           refine At.then ?_
           rcases cnd h with ⟨hc1777, h⟩ | ⟨hc1777, h⟩
           ·refine WC.condT' rfl hc1777 ?_
            refine WC.region ?_
            refine WL.y (Y.move rfl) rfl ?_
            refine WL.y (Y.loadSc ty23 rfl rfl (hf1776.cell 0 _ rfl)) rfl ?_
            refine WL.y (Y.loadSc ty3 rfl rfl (hf1772.cell 0 _ rfl)) rfl ?_
            obtain ⟨e1778, he1778, h⟩ := bnd h
            simp [idx] at he1778
           ·refine WC.condF' rfl hc1777 ?_
            refine WC.skip ?_
            exact At.join (σ := Unit) () ⟨some1 h, rfl⟩ (.cons rfl (.cons rfl .nil))
          ·rintro _ _ ⟨rfl, rfl⟩
           replace h := hk1771
           refine (show At _ _ _ [(1, Value.pointer (some ⟨p1683, 0, none⟩)), (4, vu x1716)] _ from ?_)
           refine At.then ?_
           refine WC.seq ?_
           refine WC.region ?_
           have hf1787 := hb1689.st hst1719 rfl
           refine WL.y (Y.loadSc ty3 rfl rfl (hf1787.cell 0 _ rfl)) rfl ?_
           refine WL.y (Y.add_i rfl rfl) rfl ?_
           obtain ⟨t1788, ht1788, h⟩ := lt1 h
           refine WL.ren 18 rfl (congrArg vi ht1788.symm) ?_
           refine WL.store (v := vi t1788) (cells' := [vi t1788]) ty3 rfl rfl hf1787 rfl (Nat.le_of_ble_eq_true rfl) rfl rfl ?_
           intro wd1789 hst1790 hb1791
           refine WL.nil ?_
           refine At.then ?_
           refine WC.seq ?_
           refine WC.region ?_
           refine WL.y (Y.move rfl) rfl ?_
           refine WL.y (Y.assign rfl) rfl ?_
           refine WL.nil ?_
           refine At.then ?_
           refine WC.ret ?_
           have hf1792 := hf1711.mono (imm_st hst1790 rfl rfl)
           have hf1793 := hb1708.st hst1790 rfl
           have hf1794 := hb1714.st hst1790 rfl
           exact At.res (.inl rfl) rfl (.tmp rfl .nil) ⟨(c1709, c1712, c1713, c1715, t1788, x1716, O1717, v1710), ⟨some1 h, (Stp.trans (Stp.up hst1719 rfl) (Stp.up hst1790 rfl)), hf1792, hf1793, hf1794, hb1791⟩, rfl⟩
        ·rintro ⟨c1692, c1695, c1696, c1697, c1699, x1700, O1701, v1693⟩ wd1702 ⟨rfl, hst1703, hf1694, hb1691, hb1690, hb1698⟩
         replace h := hk1705
         try dsimp only at h hst1703 hf1694 hb1691 hb1690 hb1698
         refine (show WL _ _ _ _ _ ((13, vu x1700) :: _) _ from ?_)
         refine WL.y (Y.nilCheck rfl) rfl ?_
         refine WL.y (Y.fieldAddr fo27_1 rfl) rfl ?_
         have hf1795 := hb1648.st hst1676 rfl
         have hf1796 := hf1795.st hst1681 rfl
         have hf1797 := hf1796.st hst1686 rfl
         have hf1798 := hf1797.st hst1688 rfl
         have hf1799 := hf1798.st hst1703 rfl
         refine WL.store (v := vu x1700) (cells' := [vi t1055, vu x1700, vi x1071, (Value.slice p1347 m1348 c1349), vi x1365, (Value.slice p1641 m1642 c1643)]) ty22 rfl rfl hf1799 rfl (Nat.le_of_ble_eq_true rfl) rfl rfl ?_
         intro wd1800 hst1801 hb1802
         refine WL.nil ?_
         refine At.then ?_
         refine WC.seq ?_
         refine WC.seq ?_
         refine WC.region ?_
         refine WL.y (Y.move rfl) rfl ?_
         refine WL.y (Y.nilCheck rfl) rfl ?_
         refine WL.y (Y.fieldAddr fo27_2 rfl) rfl ?_
         refine WL.y (Y.fieldAddr fo25_1 rfl) rfl ?_
         refine WL.y (Y.loadSc ty23 rfl rfl (hb1802.cell 3 _ rfl)) rfl ?_
         have hf1803 := hf1074.st hst1353 rfl rfl rfl
         have hf1804 := hf1803.st hst1371 rfl rfl rfl
         have hf1805 := hf1804.st hst1647 rfl rfl rfl
         have hf1806 := hf1805.st hst1676 rfl rfl rfl
         have hf1807 := hf1806.st hst1681 rfl rfl rfl
         have hf1808 := hf1807.st hst1686 rfl rfl rfl
         have hf1809 := hf1808.st hst1688 rfl rfl rfl
         have hf1810 := hf1809.st hst1703 rfl rfl rfl
         have hf1811 := hf1810.st hst1801 rfl rfl rfl
         refine WL.y (Y.len ty23 rfl hf1811.src.sl) rfl ?_
         refine WL.y (Y.move rfl) rfl ?_
         refine WL.nil ?_
         refine At.then ?_
         obtain ⟨p1828, h, hk1829⟩ := bnd h
         refine WC.join (σ := (List UInt64 × List UInt8 × Int × Int × Int × Int × Own × Value)) (fun x w' => (x.1, x.2.1, x.2.2.1, x.2.2.2.1, x.2.2.2.2.1, x.2.2.2.2.2.1) = p1828 ∧ Stp [12, 13, 30, 1015, 1019, 1020] O1701 wd1800 x.2.2.2.2.2.2.1 w' ∧ OwnSl 1022 Rep.u 22 x.2.2.2.2.2.2.1 w' (Value.slice p1347 m1348 c1349) x.1 ∧ Sl Rep.b w' (imm x.2.2.2.2.2.2.1) x.2.2.2.2.2.2.2 x.2.1 ∧ Blk 12 x.2.2.2.2.2.2.1 w' p23 107 [x.2.2.2.2.2.2.2, vi x.2.2.1, vi x.2.2.2.1] ∧ Blk 13 x.2.2.2.2.2.2.1 w' p37 117 [Value.pointer (some ⟨p23, 0, none⟩), vi x.2.2.2.2.1] ∧ Blk 30 x.2.2.2.2.2.2.1 w' p1683 3 [vi x.2.2.2.2.2.1]) (fun x => [(0, Value.pointer (some ⟨p50, 0, none⟩)), (7, Value.func (.func 104) (List.toArray []) (List.toArray [Value.pointer (some ⟨p1678, 0, none⟩), Value.pointer (some ⟨p1683, 0, none⟩), Value.pointer (some ⟨p1673, 0, none⟩)]))]) ?_ ?_
         ·refine WC.block ?_
          obtain ⟨p1863, h, hk1865⟩ := flow1 h
          obtain ⟨k1864, h⟩ := loop_some h
          refine WC.joinB 0 (σ := (List UInt64 × List UInt8 × Int × Int × Int × Int × Own × Value)) (fun x w' => p1863 = .go (x.1, x.2.1, x.2.2.1, x.2.2.2.1, x.2.2.2.2.1, x.2.2.2.2.2.1) ∧ Stp [12, 13, 30, 1015, 1019] O1701 wd1800 x.2.2.2.2.2.2.1 w' ∧ OwnSl 1020 Rep.u 22 x.2.2.2.2.2.2.1 w' (Value.slice p1347 m1348 c1349) x.1 ∧ Sl Rep.b w' (imm x.2.2.2.2.2.2.1) x.2.2.2.2.2.2.2 x.2.1 ∧ Blk 12 x.2.2.2.2.2.2.1 w' p23 107 [x.2.2.2.2.2.2.2, vi x.2.2.1, vi x.2.2.2.1] ∧ Blk 13 x.2.2.2.2.2.2.1 w' p37 117 [Value.pointer (some ⟨p23, 0, none⟩), vi x.2.2.2.2.1] ∧ Blk 30 x.2.2.2.2.2.2.1 w' p1683 3 [vi x.2.2.2.2.2.1]) (fun x => [(0, Value.pointer (some ⟨p50, 0, none⟩)), (7, Value.func (.func 104) (List.toArray []) (List.toArray [Value.pointer (some ⟨p1678, 0, none⟩), Value.pointer (some ⟨p1683, 0, none⟩), Value.pointer (some ⟨p1673, 0, none⟩)]))]) ?_ ?_
          ·obtain ⟨O1866, hst1867, ho1868⟩ := OwnSl.rlb 1019 rfl hf1811
           have hf1869 := hf1694.mono (imm_st hst1801 rfl rfl)
           have hf1870 := hf1869.mono (imm_st hst1867 rfl rfl)
           have hf1871 := hb1691.st hst1801 rfl
           have hf1872 := hf1871.st hst1867 rfl
           have hf1873 := hb1690.st hst1801 rfl
           have hf1874 := hf1873.st hst1867 rfl
           have hf1875 := hb1698.st hst1801 rfl
           have hf1876 := hf1875.st hst1867 rfl
           refine WC.loop (σ := (List UInt64 × List UInt8 × Int × Int × Int × Int × Int × Own × Value)) (fun x k w' => loopN k (histbits_Row_Get_lp3 x1072) (x.1, x.2.1, x.2.2.1, x.2.2.2.1, x.2.2.2.2.1, x.2.2.2.2.2.1, x.2.2.2.2.2.2.1) = some p1863 ∧ Stp [12, 13, 30, 1015, 1019] O1701 wd1800 x.2.2.2.2.2.2.2.1 w' ∧ OwnSl 1019 Rep.u 22 x.2.2.2.2.2.2.2.1 w' (Value.slice p1347 m1348 c1349) x.1 ∧ Sl Rep.b w' (imm x.2.2.2.2.2.2.2.1) x.2.2.2.2.2.2.2.2 x.2.1 ∧ Blk 12 x.2.2.2.2.2.2.2.1 w' p23 107 [x.2.2.2.2.2.2.2.2, vi x.2.2.1, vi x.2.2.2.1] ∧ Blk 13 x.2.2.2.2.2.2.2.1 w' p37 117 [Value.pointer (some ⟨p23, 0, none⟩), vi x.2.2.2.2.1] ∧ Blk 30 x.2.2.2.2.2.2.2.1 w' p1683 3 [vi x.2.2.2.2.2.1]) (fun x => [(0, Value.pointer (some ⟨p50, 0, none⟩)), (7, Value.func (.func 104) (List.toArray []) (List.toArray [Value.pointer (some ⟨p1678, 0, none⟩), Value.pointer (some ⟨p1683, 0, none⟩), Value.pointer (some ⟨p1673, 0, none⟩)])), (21, vi (x1072.length : Int)), (22, vi x.2.2.2.2.2.2.1)]) (x1072, c1692, c1695, c1696, c1697, c1699, 0, O1866, v1693) k1864 (.cons rfl (.cons rfl (.cons rfl (.cons rfl .nil)))) ⟨h, (Stp.up hst1867 rfl), ho1868, hf1870, hf1872, hf1874, hf1876⟩ ?_
           rintro ⟨c1830, c1835, c1838, c1839, c1840, c1842, x1843, O1844, v1836⟩ k1864 wd1845 ⟨h, hst1846, hf1832, hf1837, hb1834, hb1833, hb1841⟩
           obtain ⟨j1877, q1878, rfl, h, hn1879⟩ := rnd1 h
           unfold histbits_Row_Get_lp3 at h
           try dsimp only at h hst1846 hf1832 hf1837 hb1834 hb1833 hb1841
           refine (show WC _ _ _ _ [(0, Value.pointer (some ⟨p50, 0, none⟩)), (7, Value.func (.func 104) (List.toArray []) (List.toArray [Value.pointer (some ⟨p1678, 0, none⟩), Value.pointer (some ⟨p1683, 0, none⟩), Value.pointer (some ⟨p1673, 0, none⟩)])), (21, vi (x1072.length : Int)), (22, vi x1843)] _ from ?_)
           refine WC.seq ?_
           refine WC.region ?_
           refine WL.y (Y.lss_i rfl rfl) rfl ?_
           refine WL.nil ?_
           refine At.then ?_
           refine WC.seq ?_
           rcases cnd h with ⟨hc1880, h⟩ | ⟨hc1880, h⟩
           ·refine WC.condT' rfl hc1880 ?_
            refine WC.skip ?_
            refine At.then ?_
            refine WC.seq ?_
            refine WC.block ?_
            refine WC.seq ?_
            refine WC.region ?_
            refine WL.y (Y.move rfl) rfl ?_
            refine WL.y (Y.assign rfl) rfl ?_
            refine WL.nil ?_
            refine At.then ?_
            refine WC.drawH [12, 13, 30] [0, 1, 2, 3, 4, 5, 6, 7, 8] O1844 10 fmix rfl (by kernel_rfl) ?_
            intro wd1881 hst1882
            refine WD.y 0 rfl (by kernel_rfl) (fun _ _ _ => Y.move rfl) rfl ?_
            refine WD.y 1 rfl (by kernel_rfl) (fun _ _ _ => Y.nilCheck rfl) rfl ?_
            refine WD.y 2 rfl (by kernel_rfl) (fun _ _ _ => Y.fieldAddr fo27_2 rfl) rfl ?_
            refine WD.y 3 rfl (by kernel_rfl) (fun _ _ _ => Y.fieldAddr fo25_1 rfl) rfl ?_
            refine WD.y 4 rfl (by kernel_rfl) (fun wd1896 O1895 hst1897 => have hf1898 := hb1802.st hst1846 rfl; have hf1899 := hf1898.st hst1882 rfl; have hf1900 := hf1899.st hst1897 rfl; Y.loadSc ty23 rfl rfl (hf1900.cell 3 _ rfl)) rfl ?_
            refine WD.y 5 rfl (by kernel_rfl) (fun _ _ _ => Y.move rfl) rfl ?_
            refine WD.y 6 rfl (by kernel_rfl) (fun _ _ _ => Y.move rfl) rfl ?_
            refine WD.heavy 7 rfl (by kernel_rfl) ?_
            obtain ⟨p1921, h, hk1922⟩ := bnd h
            refine WL.callV (fv := []) (cv := [Value.pointer (some ⟨p1678, 0, none⟩), Value.pointer (some ⟨p1683, 0, none⟩), Value.pointer (some ⟨p1673, 0, none⟩)]) (vals := []) (σ := (List UInt8 × Int × Int × Int × Int × UInt64 × Own × Value)) (fun x w' => (x.1, x.2.1, x.2.2.1, x.2.2.2.1, x.2.2.2.2.1, x.2.2.2.2.2.1) = p1921 ∧ Stp [12, 13, 30] O1844 wd1881 x.2.2.2.2.2.2.1 w' ∧ Sl Rep.b w' (imm x.2.2.2.2.2.2.1) x.2.2.2.2.2.2.2 x.1 ∧ Blk 12 x.2.2.2.2.2.2.1 w' p23 107 [x.2.2.2.2.2.2.2, vi x.2.1, vi x.2.2.1] ∧ Blk 13 x.2.2.2.2.2.2.1 w' p37 117 [Value.pointer (some ⟨p23, 0, none⟩), vi x.2.2.2.1] ∧ Blk 30 x.2.2.2.2.2.2.1 w' p1683 3 [vi x.2.2.2.2.1]) (fun x => vu x.2.2.2.2.2.1) kok104 rfl rfl rfl ?_ ?_
            ·refine Rets.enter Try.func104 rfl rfl ?_
             refine (show WC _ _ _ _ [(0, Value.pointer (some ⟨p1678, 0, none⟩)), (1, Value.pointer (some ⟨p1683, 0, none⟩)), (2, Value.pointer (some ⟨p1673, 0, none⟩))] _ from ?_)
             refine WC.seq ?_
             refine WC.region ?_
             refine WL.y (Y.assign (v := vu 0) rfl) rfl ?_
             refine WL.nil ?_
             refine At.then ?_
             refine WC.seq ?_
             refine WC.region ?_
             have hf1923 := hb1677.st hst1686 rfl
             have hf1924 := hf1923.st hst1688 rfl
             have hf1925 := hf1924.st hst1703 rfl
             have hf1926 := hf1925.st hst1801 rfl
             have hf1927 := hf1926.st hst1846 rfl
             have hf1928 := hf1927.st hst1882 rfl
             refine WL.y (Y.loadSc ty113 rfl rfl (hf1928.cell 0 _ rfl)) rfl ?_
             obtain ⟨p1941, h, hk1942⟩ := bnd h
             refine WL.callV (fv := [Value.pointer (some ⟨p37, 0, none⟩)]) (cv := []) (vals := []) (σ := (List UInt8 × Int × Int × Int × UInt64 × Own × Value)) (fun x w' => (x.1, x.2.1, x.2.2.1, x.2.2.2.1, x.2.2.2.2.1) = p1941 ∧ Stp [12, 13] O1844 wd1881 x.2.2.2.2.2.1 w' ∧ Sl Rep.b w' (imm x.2.2.2.2.2.1) x.2.2.2.2.2.2 x.1 ∧ Blk 12 x.2.2.2.2.2.1 w' p23 107 [x.2.2.2.2.2.2, vi x.2.1, vi x.2.2.1] ∧ Blk 13 x.2.2.2.2.2.1 w' p37 117 [Value.pointer (some ⟨p23, 0, none⟩), vi x.2.2.2.1]) (fun x => vu x.2.2.2.2.1) kok87 rfl rfl rfl ?_ ?_
             ·refine Rets.enter Try.func87 rfl rfl ?_
              refine (show WC _ _ _ _ [(0, Value.pointer (some ⟨p37, 0, none⟩))] _ from ?_)
              refine WC.seq ?_
              refine WC.region ?_
              refine WL.y (Y.assign (v := vu 0) rfl) rfl ?_
              refine WL.nil ?_
              refine At.then ?_
              refine WC.seq ?_
              refine WC.seq ?_
              refine WC.region ?_
              refine WL.y (Y.move rfl) rfl ?_
              refine WL.y (Y.nilCheck rfl) rfl ?_
              refine WL.y (Y.fieldAddr fo117_1 rfl) rfl ?_
              have hf1943 := hb1833.st hst1882 rfl
              refine WL.y (Y.loadSc ty32 rfl rfl (hf1943.cell 1 _ rfl)) rfl ?_
              refine WL.y (Y.neq_i rfl rfl) rfl ?_
              refine WL.nil ?_
              refine At.then ?_
              rcases cnd h with ⟨hc1944, h⟩ | ⟨hc1944, h⟩
              ·refine WC.condT' rfl hc1944 ?_
               refine WC.seq ?_
               refine WC.region ?_
               refine WL.y (Y.assign (v := vu 0) rfl) rfl ?_
               refine WL.nil ?_
               refine At.then ?_
               refine WC.ret ?_
               refine At.thenR ?_
               have hf1945 := hf1837.mono (imm_st hst1882 rfl rfl)
               have hf1946 := hb1834.st hst1882 rfl
               exact At.res (.inl rfl) rfl (.tmp rfl .nil) ⟨(c1835, c1838, c1839, c1840, 0, O1844, v1836), ⟨some1 h, (Stp.refl _ _ _), hf1945, hf1946, hf1943⟩, rfl⟩
              ·refine WC.condF' rfl hc1944 ?_
               refine WC.skip ?_
               refine At.then ?_
               refine WC.seq ?_
               refine WC.region ?_
               refine WL.y (Y.move rfl) rfl ?_
               refine WL.y (Y.nilCheck rfl) rfl ?_
               refine WL.y (Y.fieldAddr fo117_0 rfl) rfl ?_
               refine WL.y (Y.loadSc ty61 rfl rfl (hf1943.cell 0 _ rfl)) rfl ?_
               have hf1947 := hb1834.st hst1882 rfl
               have hf1948 := hf1837.mono (imm_st hst1882 rfl rfl)
               obtain ⟨⟨r1949, r1950, r1951⟩, hp1952, h⟩ := bnd h
               refine WL.call (vals := [Value.pointer (some ⟨p23, 0, none⟩)]) kok106 rfl rfl (c_vary_Get (A := imm O1844) (a0 := (bitio_Reader.mk c1835 c1838 c1839)) hf1948 hf1947.blk (fun k hk => imm_ne hf1947.lab rfl k hk) hp1952) ?_
               rintro vr1958 wd1957 ⟨z1953, rfl, hm1956, f1954, f1955⟩
               obtain ⟨O1959, hold1960, hnew1961, hst1962⟩ := adopt O1844 (fun k => 1) [12] hm1956 (memB hf1947.lab rfl)
               have hf1963 : Sl Rep.b wd1957 (imm O1959) z1953 r1951.b := Sl.adoptI (O := O1844) f1954 (fun _ hk => hk) (fun _ _ => Nat.le_refl _) hold1960 hnew1961
               have hb1964 : Blk 12 O1959 wd1957 p23 107 [z1953, vi r1951.n, vi r1951.at_] := Blk.adopt hf1947 hold1960 f1955
               refine WL.y (Y.move rfl) rfl ?_
               refine WL.y (Y.extract rfl rfl) rfl ?_
               refine WL.y (Y.extract rfl rfl) rfl ?_
               refine WL.y (Y.assign rfl) rfl ?_
               refine WL.y (Y.assign rfl) rfl ?_
               refine WL.nil ?_
               refine At.then ?_
               refine WC.seq ?_
               refine WC.region ?_
               refine WL.y (Y.move rfl) rfl ?_
               refine WL.y (Y.move rfl) rfl ?_
               refine WL.y (Y.nilCheck rfl) rfl ?_
               refine WL.y (Y.fieldAddr fo117_1 rfl) rfl ?_
               have hf1965 := hf1943.st hst1962 rfl
               refine WL.store (v := vi r1950) (cells' := [Value.pointer (some ⟨p23, 0, none⟩), vi r1950]) ty32 rfl rfl hf1965 rfl (Nat.le_of_ble_eq_true rfl) rfl rfl ?_
               intro wd1966 hst1967 hb1968
               refine WL.nil ?_
               refine At.then ?_
               refine WC.seq ?_
               refine WC.region ?_
               refine WL.y (Y.move rfl) rfl ?_
               refine WL.y (Y.assign rfl) rfl ?_
               refine WL.nil ?_
               refine At.then ?_
               refine WC.ret ?_
               have hf1969 := hf1963.mono (imm_st hst1967 rfl rfl)
               have hf1970 := hb1964.st hst1967 rfl
               exact At.res (.inl rfl) rfl (.tmp rfl .nil) ⟨(r1951.b, r1951.n, r1951.at_, r1950, r1949, O1959, z1953), ⟨some1 h, (Stp.trans (Stp.up hst1962 rfl) (Stp.up hst1967 rfl)), hf1969, hf1970, hb1968⟩, rfl⟩
             ·rintro ⟨c1930, c1933, c1934, c1936, x1937, O1938, v1931⟩ wd1939 ⟨rfl, hst1940, hf1932, hb1929, hb1935⟩
              replace h := hk1942
              try dsimp only at h hst1940 hf1932 hb1929 hb1935
              refine (show WL _ _ _ _ _ ((6, vu x1937) :: _) _ from ?_)
              refine WL.y (Y.assign rfl) rfl ?_
              refine WL.nil ?_
              refine At.then ?_
              refine WC.seq ?_
              obtain ⟨p1971, h, hk1972⟩ := bnd h
              refine WC.join (σ := Unit) (fun x w' => () = p1971 ∧ wd1939 = w') (fun x => [(1, Value.pointer (some ⟨p1683, 0, none⟩)), (4, vu x1937)]) ?_ ?_
              ·refine WC.seq ?_
               refine WC.region ?_
               have hf1973 := hb1841.st hst1882 rfl
               have hf1974 := hf1973.st hst1940 rfl
               refine WL.y (Y.loadSc ty3 rfl rfl (hf1974.cell 0 _ rfl)) rfl ?_
               have hf1975 := hb1672.st hst1681 rfl
               have hf1976 := hf1975.st hst1686 rfl
               have hf1977 := hf1976.st hst1688 rfl
               have hf1978 := hf1977.st hst1703 rfl
               have hf1979 := hf1978.st hst1801 rfl
               have hf1980 := hf1979.st hst1846 rfl
               have hf1981 := hf1980.st hst1882 rfl
               have hf1982 := hf1981.st hst1940 rfl
               refine WL.y (Y.loadSc ty23 rfl rfl (hf1982.cell 0 _ rfl)) rfl ?_
               refine WL.y (Y.len (R := Rep.u) (xs := []) (A := fun _ => True) ty23 rfl (Or.inl ⟨rfl, rfl⟩)) rfl ?_
               refine WL.y (Y.lss_i rfl rfl) rfl ?_
               refine WL.nil ?_
               refine At.then ?_
               rcases cnd h with ⟨hc1983, h⟩ | ⟨hc1983, h⟩
               ·refine WC.condT' rfl hc1983 ?_
                refine WC.region ?_
                refine WL.y (Y.move rfl) rfl ?_
                refine WL.y (Y.loadSc ty23 rfl rfl (hf1982.cell 0 _ rfl)) rfl ?_
                refine WL.y (Y.loadSc ty3 rfl rfl (hf1974.cell 0 _ rfl)) rfl ?_
                obtain ⟨e1984, he1984, h⟩ := bnd h
                simp [idx] at he1984
               ·refine WC.condF' rfl hc1983 ?_
                refine WC.skip ?_
                exact At.join (σ := Unit) () ⟨some1 h, rfl⟩ (.cons rfl (.cons rfl .nil))
              ·rintro _ _ ⟨rfl, rfl⟩
               replace h := hk1972
               refine (show At _ _ _ [(1, Value.pointer (some ⟨p1683, 0, none⟩)), (4, vu x1937)] _ from ?_)
               refine At.then ?_
               refine WC.seq ?_
               refine WC.region ?_
               have hf1993 := hb1841.st hst1882 rfl
               have hf1994 := hf1993.st hst1940 rfl
               refine WL.y (Y.loadSc ty3 rfl rfl (hf1994.cell 0 _ rfl)) rfl ?_
               refine WL.y (Y.add_i rfl rfl) rfl ?_
               obtain ⟨t1995, ht1995, h⟩ := lt1 h
               refine WL.ren 18 rfl (congrArg vi ht1995.symm) ?_
               refine WL.store (v := vi t1995) (cells' := [vi t1995]) ty3 rfl rfl hf1994 rfl (Nat.le_of_ble_eq_true rfl) rfl rfl ?_
               intro wd1996 hst1997 hb1998
               refine WL.nil ?_
               refine At.then ?_
               refine WC.seq ?_
               refine WC.region ?_
               refine WL.y (Y.move rfl) rfl ?_
               refine WL.y (Y.assign rfl) rfl ?_
               refine WL.nil ?_
               refine At.then ?_
               refine WC.ret ?_
               have hf1999 := hf1932.mono (imm_st hst1997 rfl rfl)
               have hf2000 := hb1929.st hst1997 rfl
               have hf2001 := hb1935.st hst1997 rfl
               exact At.res (.inl rfl) rfl (.tmp rfl .nil) ⟨(c1930, c1933, c1934, c1936, t1995, x1937, O1938, v1931), ⟨some1 h, (Stp.trans (Stp.up hst1940 rfl) (Stp.up hst1997 rfl)), hf1999, hf2000, hf2001, hb1998⟩, rfl⟩
            ·rintro ⟨c1909, c1912, c1913, c1914, c1916, x1917, O1918, v1910⟩ wd1919 ⟨rfl, hst1920, hf1911, hb1908, hb1907, hb1915⟩
             replace h := hk1922
             try dsimp only at h hst1920 hf1911 hb1908 hb1907 hb1915
             refine (show WL _ _ _ _ _ ((32, vu x1917) :: _) _ from ?_)
             refine WL.nil ?_
             refine At.dq (Stp.up hst1920 rfl) ?_
             obtain ⟨e2002, he2002, h⟩ := bnd h
             have hf2011 := hf1832.st hst1882 rfl rfl rfl
             have hf2012 := hf2011.st hst1920 rfl rfl rfl
             obtain ⟨b2003, cap2010, cs2009, hv2004, hi2005, hl2006, hc2007, hok2008⟩ := OwnSl.at hf2012 he2002
             obtain rfl := hok2008
             replace hc2007 : CellsAt _ _ _ [vu e2002] := hc2007
             have hca2013 := CAt.own hf2012 hv2004 hc2007
             refine WD.y 8 rfl (by kernel_rfl) (fun _ _ _ => Y.indexAddr ty23 ty22 rfl hv2004 rfl hi2005 hl2006) rfl ?_
             refine WD.phase [1019] [0, 1, 2, 3, 4, 5, 6, 7, 8, 9] (by kernel_rfl) (by kernel_rfl) ?_
             refine WD.heavy 9 rfl (by kernel_rfl) ?_
             obtain ⟨xs2017, hxs2017, h⟩ := bnd h
             refine WL.storeOwn (by decide) ty22 rfl rfl rfl hf2012 hv2004 hxs2017 ?_
             intro wd2018 hst2019 ho2020
             refine WL.nil ?_
             refine At.dq (Stp.up hst2019 rfl) ?_
             refine WD.done_ (by kernel_rfl) ?_
             refine At.inBlock ?_
             refine At.then ?_
             refine WC.region ?_
             refine WL.y (Y.add_i rfl rfl) rfl ?_
             refine WL.y (Y.move rfl) rfl ?_
             refine WL.nil ?_
             have hf2021 := hf1911.mono (imm_st hst2019 rfl rfl)
             have hf2022 := hb1908.st hst2019 rfl
             have hf2023 := hb1907.st hst2019 rfl
             have hf2024 := hb1915.st hst2019 rfl
             exact At.round (xs2017, c1909, c1912, c1913, c1914, c1916, w64 (x1843 + 1), O1918, v1910) j1877 (Nat.lt_succ_self _) ⟨next1 h hn1879, (Stp.trans (Stp.up hst1846 rfl) (Stp.trans (Stp.up hst1882 rfl) (Stp.trans (Stp.up hst1920 rfl) (Stp.up hst2019 rfl)))), ho2020, hf2021, hf2022, hf2023, hf2024⟩ (.cons rfl (.cons rfl (.cons rfl (.cons rfl .nil))))
           ·refine WC.condF' rfl hc1880 ?_
            refine WC.exit ?_
            refine At.thenX ?_
            refine At.loopX ?_
            obtain ⟨O2025, hst2026, ho2027⟩ := OwnSl.rlb 1020 rfl hf1832
            have hf2028 := hf1837.mono (imm_st hst2026 rfl rfl)
            have hf2029 := hb1834.st hst2026 rfl
            have hf2030 := hb1833.st hst2026 rfl
            have hf2031 := hb1841.st hst2026 rfl
            exact At.hitB (σ := (List UInt64 × List UInt8 × Int × Int × Int × Int × Own × Value)) (c1830, c1835, c1838, c1839, c1840, c1842, O2025, v1836) ⟨brk1 h hn1879, (Stp.trans (Stp.up hst1846 rfl) (Stp.up hst2026 rfl)), ho2027, hf2028, hf2029, hf2030, hf2031⟩ (.cons rfl (.cons rfl .nil))
          ·rintro ⟨c1847, c1852, c1855, c1856, c1857, c1859, O1860, v1853⟩ wd1861 ⟨rfl, hst1862, hf1849, hf1854, hb1851, hb1850, hb1858⟩
           replace h := flowK_go hk1865
           try dsimp only at h hst1862 hf1849 hf1854 hb1851 hb1850 hb1858
           refine (show At _ _ _ [(0, Value.pointer (some ⟨p50, 0, none⟩)), (7, Value.func (.func 104) (List.toArray []) (List.toArray [Value.pointer (some ⟨p1678, 0, none⟩), Value.pointer (some ⟨p1683, 0, none⟩), Value.pointer (some ⟨p1673, 0, none⟩)]))] _ from ?_)
           refine At.inBlockHit ?_
           obtain ⟨O2032, hst2033, ho2034⟩ := OwnSl.rlb 1022 rfl hf1849
           have hf2035 := hf1854.mono (imm_st hst2033 rfl rfl)
           have hf2036 := hb1851.st hst2033 rfl
           have hf2037 := hb1850.st hst2033 rfl
           have hf2038 := hb1858.st hst2033 rfl
           exact At.join (σ := (List UInt64 × List UInt8 × Int × Int × Int × Int × Own × Value)) (c1847, c1852, c1855, c1856, c1857, c1859, O2032, v1853) ⟨some1 h, (Stp.trans (Stp.up hst1862 rfl) (Stp.up hst2033 rfl)), ho2034, hf2035, hf2036, hf2037, hf2038⟩ (.cons rfl (.cons rfl .nil))
         ·rintro ⟨c1812, c1817, c1820, c1821, c1822, c1824, O1825, v1818⟩ wd1826 ⟨rfl, hst1827, hf1814, hf1819, hb1816, hb1815, hb1823⟩
          replace h := hk1829
          try dsimp only at h hst1827 hf1814 hf1819 hb1816 hb1815 hb1823
          refine (show At _ _ _ [(0, Value.pointer (some ⟨p50, 0, none⟩)), (7, Value.func (.func 104) (List.toArray []) (List.toArray [Value.pointer (some ⟨p1678, 0, none⟩), Value.pointer (some ⟨p1683, 0, none⟩), Value.pointer (some ⟨p1673, 0, none⟩)]))] _ from ?_)
          refine At.then ?_
          refine WC.seq ?_
          refine WC.region ?_
          refine WL.y (Y.move rfl) rfl ?_
          refine WL.y (Y.nilCheck rfl) rfl ?_
          refine WL.y (Y.fieldAddr fo27_3 rfl) rfl ?_
          refine WL.y (Y.fieldAddr fo25_1 rfl) rfl ?_
          have hf2039 := hb1802.st hst1827 rfl
          refine WL.y (Y.loadSc ty23 rfl rfl (hf2039.cell 5 _ rfl)) rfl ?_
          have hf2040 := hf1368.st hst1647 rfl rfl rfl
          have hf2041 := hf2040.st hst1676 rfl rfl rfl
          have hf2042 := hf2041.st hst1681 rfl rfl rfl
          have hf2043 := hf2042.st hst1686 rfl rfl rfl
          have hf2044 := hf2043.st hst1688 rfl rfl rfl
          have hf2045 := hf2044.st hst1703 rfl rfl rfl
          have hf2046 := hf2045.st hst1801 rfl rfl rfl
          have hf2047 := hf2046.st hst1827 rfl rfl rfl
          refine WL.y (Y.len ty23 rfl hf2047.src.sl) rfl ?_
          refine WL.y (Y.move rfl) rfl ?_
          refine WL.nil ?_
          refine At.then ?_
          refine WC.block ?_
          obtain ⟨p2079, h, hk2081⟩ := flow1 h
          obtain ⟨k2080, h⟩ := loop_some h
          refine WC.joinB 2 (σ := (List UInt8 × Int × Int × Int × List UInt64 × Own × Value)) (fun x w' => p2079 = .go (x.1, x.2.1, x.2.2.1, x.2.2.2.1, x.2.2.2.2.1) ∧ Stp [12, 13, 30, 1018, 1023] O1825 wd1826 x.2.2.2.2.2.1 w' ∧ Sl Rep.b w' (imm x.2.2.2.2.2.1) x.2.2.2.2.2.2 x.1 ∧ Blk 12 x.2.2.2.2.2.1 w' p23 107 [x.2.2.2.2.2.2, vi x.2.1, vi x.2.2.1] ∧ Blk 13 x.2.2.2.2.2.1 w' p37 117 [Value.pointer (some ⟨p23, 0, none⟩), vi x.2.2.2.1] ∧ OwnSl 1024 Rep.u 22 x.2.2.2.2.2.1 w' (Value.slice p1641 m1642 c1643) x.2.2.2.2.1) (fun x => []) ?_ ?_
          ·obtain ⟨O2082, hst2083, ho2084⟩ := OwnSl.rlb 1023 rfl hf2047
           have hf2085 := hf1819.mono (imm_st hst2083 rfl rfl)
           have hf2086 := hb1816.st hst2083 rfl
           have hf2087 := hb1815.st hst2083 rfl
           have hf2088 := hb1823.st hst2083 rfl
           refine WC.loop (σ := (List UInt64 × List UInt8 × Int × Int × Int × Int × Int × Own × Value)) (fun x k w' => loopN k (histbits_Row_Get_lp4 x1366) (x.1, x.2.1, x.2.2.1, x.2.2.2.1, x.2.2.2.2.1, x.2.2.2.2.2.1, x.2.2.2.2.2.2.1) = some p2079 ∧ Stp [12, 13, 30, 1018, 1023] O1825 wd1826 x.2.2.2.2.2.2.2.1 w' ∧ OwnSl 1023 Rep.u 22 x.2.2.2.2.2.2.2.1 w' (Value.slice p1641 m1642 c1643) x.1 ∧ Sl Rep.b w' (imm x.2.2.2.2.2.2.2.1) x.2.2.2.2.2.2.2.2 x.2.1 ∧ Blk 12 x.2.2.2.2.2.2.2.1 w' p23 107 [x.2.2.2.2.2.2.2.2, vi x.2.2.1, vi x.2.2.2.1] ∧ Blk 13 x.2.2.2.2.2.2.2.1 w' p37 117 [Value.pointer (some ⟨p23, 0, none⟩), vi x.2.2.2.2.1] ∧ Blk 30 x.2.2.2.2.2.2.2.1 w' p1683 3 [vi x.2.2.2.2.2.1]) (fun x => [(0, Value.pointer (some ⟨p50, 0, none⟩)), (7, Value.func (.func 104) (List.toArray []) (List.toArray [Value.pointer (some ⟨p1678, 0, none⟩), Value.pointer (some ⟨p1683, 0, none⟩), Value.pointer (some ⟨p1673, 0, none⟩)])), (40, vi (x1366.length : Int)), (41, vi x.2.2.2.2.2.2.1)]) (x1366, c1817, c1820, c1821, c1822, c1824, 0, O2082, v1818) k2080 (.cons rfl (.cons rfl (.cons rfl (.cons rfl .nil)))) ⟨h, (Stp.up hst2083 rfl), ho2084, hf2085, hf2086, hf2087, hf2088⟩ ?_
           rintro ⟨c2048, c2053, c2056, c2057, c2058, c2060, x2061, O2062, v2054⟩ k2080 wd2063 ⟨h, hst2064, hf2050, hf2055, hb2052, hb2051, hb2059⟩
           obtain ⟨j2089, q2090, rfl, h, hn2091⟩ := rnd1 h
           unfold histbits_Row_Get_lp4 at h
           try dsimp only at h hst2064 hf2050 hf2055 hb2052 hb2051 hb2059
           refine (show WC _ _ _ _ [(0, Value.pointer (some ⟨p50, 0, none⟩)), (7, Value.func (.func 104) (List.toArray []) (List.toArray [Value.pointer (some ⟨p1678, 0, none⟩), Value.pointer (some ⟨p1683, 0, none⟩), Value.pointer (some ⟨p1673, 0, none⟩)])), (40, vi (x1366.length : Int)), (41, vi x2061)] _ from ?_)
           refine WC.seq ?_
           refine WC.region ?_
           refine WL.y (Y.lss_i rfl rfl) rfl ?_
           refine WL.nil ?_
           refine At.then ?_
           refine WC.seq ?_
           rcases cnd h with ⟨hc2092, h⟩ | ⟨hc2092, h⟩
           ·refine WC.condT' rfl hc2092 ?_
            refine WC.skip ?_
            refine At.then ?_
            refine WC.seq ?_
            refine WC.block ?_
            refine WC.seq ?_
            refine WC.region ?_
            refine WL.y (Y.move rfl) rfl ?_
            refine WL.y (Y.assign rfl) rfl ?_
            refine WL.nil ?_
            refine At.then ?_
            refine WC.drawH [12, 13, 30] [0, 1, 2, 3, 4, 5, 6, 7, 8] O2062 10 fmix rfl (by kernel_rfl) ?_
            intro wd2093 hst2094
            refine WD.y 0 rfl (by kernel_rfl) (fun _ _ _ => Y.move rfl) rfl ?_
            refine WD.y 1 rfl (by kernel_rfl) (fun _ _ _ => Y.nilCheck rfl) rfl ?_
            refine WD.y 2 rfl (by kernel_rfl) (fun _ _ _ => Y.fieldAddr fo27_3 rfl) rfl ?_
            refine WD.y 3 rfl (by kernel_rfl) (fun _ _ _ => Y.fieldAddr fo25_1 rfl) rfl ?_
            refine WD.y 4 rfl (by kernel_rfl) (fun wd2108 O2107 hst2109 => have hf2110 := hf2039.st hst2064 rfl; have hf2111 := hf2110.st hst2094 rfl; have hf2112 := hf2111.st hst2109 rfl; Y.loadSc ty23 rfl rfl (hf2112.cell 5 _ rfl)) rfl ?_
            refine WD.y 5 rfl (by kernel_rfl) (fun _ _ _ => Y.move rfl) rfl ?_
            refine WD.y 6 rfl (by kernel_rfl) (fun _ _ _ => Y.move rfl) rfl ?_
            refine WD.heavy 7 rfl (by kernel_rfl) ?_
            obtain ⟨p2133, h, hk2134⟩ := bnd h
            refine WL.callV (fv := []) (cv := [Value.pointer (some ⟨p1678, 0, none⟩), Value.pointer (some ⟨p1683, 0, none⟩), Value.pointer (some ⟨p1673, 0, none⟩)]) (vals := []) (σ := (List UInt8 × Int × Int × Int × Int × UInt64 × Own × Value)) (fun x w' => (x.1, x.2.1, x.2.2.1, x.2.2.2.1, x.2.2.2.2.1, x.2.2.2.2.2.1) = p2133 ∧ Stp [12, 13, 30] O2062 wd2093 x.2.2.2.2.2.2.1 w' ∧ Sl Rep.b w' (imm x.2.2.2.2.2.2.1) x.2.2.2.2.2.2.2 x.1 ∧ Blk 12 x.2.2.2.2.2.2.1 w' p23 107 [x.2.2.2.2.2.2.2, vi x.2.1, vi x.2.2.1] ∧ Blk 13 x.2.2.2.2.2.2.1 w' p37 117 [Value.pointer (some ⟨p23, 0, none⟩), vi x.2.2.2.1] ∧ Blk 30 x.2.2.2.2.2.2.1 w' p1683 3 [vi x.2.2.2.2.1]) (fun x => vu x.2.2.2.2.2.1) kok104 rfl rfl rfl ?_ ?_
            ·refine Rets.enter Try.func104 rfl rfl ?_
             refine (show WC _ _ _ _ [(0, Value.pointer (some ⟨p1678, 0, none⟩)), (1, Value.pointer (some ⟨p1683, 0, none⟩)), (2, Value.pointer (some ⟨p1673, 0, none⟩))] _ from ?_)
             refine WC.seq ?_
             refine WC.region ?_
             refine WL.y (Y.assign (v := vu 0) rfl) rfl ?_
             refine WL.nil ?_
             refine At.then ?_
             refine WC.seq ?_
             refine WC.region ?_
             have hf2135 := hb1677.st hst1686 rfl
             have hf2136 := hf2135.st hst1688 rfl
             have hf2137 := hf2136.st hst1703 rfl
             have hf2138 := hf2137.st hst1801 rfl
             have hf2139 := hf2138.st hst1827 rfl
             have hf2140 := hf2139.st hst2064 rfl
             have hf2141 := hf2140.st hst2094 rfl
             refine WL.y (Y.loadSc ty113 rfl rfl (hf2141.cell 0 _ rfl)) rfl ?_
             obtain ⟨p2154, h, hk2155⟩ := bnd h
             refine WL.callV (fv := [Value.pointer (some ⟨p37, 0, none⟩)]) (cv := []) (vals := []) (σ := (List UInt8 × Int × Int × Int × UInt64 × Own × Value)) (fun x w' => (x.1, x.2.1, x.2.2.1, x.2.2.2.1, x.2.2.2.2.1) = p2154 ∧ Stp [12, 13] O2062 wd2093 x.2.2.2.2.2.1 w' ∧ Sl Rep.b w' (imm x.2.2.2.2.2.1) x.2.2.2.2.2.2 x.1 ∧ Blk 12 x.2.2.2.2.2.1 w' p23 107 [x.2.2.2.2.2.2, vi x.2.1, vi x.2.2.1] ∧ Blk 13 x.2.2.2.2.2.1 w' p37 117 [Value.pointer (some ⟨p23, 0, none⟩), vi x.2.2.2.1]) (fun x => vu x.2.2.2.2.1) kok87 rfl rfl rfl ?_ ?_
             ·refine Rets.enter Try.func87 rfl rfl ?_
              refine (show WC _ _ _ _ [(0, Value.pointer (some ⟨p37, 0, none⟩))] _ from ?_)
              refine WC.seq ?_
              refine WC.region ?_
              refine WL.y (Y.assign (v := vu 0) rfl) rfl ?_
              refine WL.nil ?_
              refine At.then ?_
              refine WC.seq ?_
              refine WC.seq ?_
              refine WC.region ?_
              refine WL.y (Y.move rfl) rfl ?_
              refine WL.y (Y.nilCheck rfl) rfl ?_
              refine WL.y (Y.fieldAddr fo117_1 rfl) rfl ?_
              have hf2156 := hb2051.st hst2094 rfl
              refine WL.y (Y.loadSc ty32 rfl rfl (hf2156.cell 1 _ rfl)) rfl ?_
              refine WL.y (Y.neq_i rfl rfl) rfl ?_
              refine WL.nil ?_
              refine At.then ?_
              rcases cnd h with ⟨hc2157, h⟩ | ⟨hc2157, h⟩
              ·refine WC.condT' rfl hc2157 ?_
               refine WC.seq ?_
               refine WC.region ?_
               refine WL.y (Y.assign (v := vu 0) rfl) rfl ?_
               refine WL.nil ?_
               refine At.then ?_
               refine WC.ret ?_
               refine At.thenR ?_
               have hf2158 := hf2055.mono (imm_st hst2094 rfl rfl)
               have hf2159 := hb2052.st hst2094 rfl
               exact At.res (.inl rfl) rfl (.tmp rfl .nil) ⟨(c2053, c2056, c2057, c2058, 0, O2062, v2054), ⟨some1 h, (Stp.refl _ _ _), hf2158, hf2159, hf2156⟩, rfl⟩
              ·refine WC.condF' rfl hc2157 ?_
               refine WC.skip ?_
               refine At.then ?_
               refine WC.seq ?_
               refine WC.region ?_
               refine WL.y (Y.move rfl) rfl ?_
               refine WL.y (Y.nilCheck rfl) rfl ?_
               refine WL.y (Y.fieldAddr fo117_0 rfl) rfl ?_
               refine WL.y (Y.loadSc ty61 rfl rfl (hf2156.cell 0 _ rfl)) rfl ?_
               have hf2160 := hb2052.st hst2094 rfl
               have hf2161 := hf2055.mono (imm_st hst2094 rfl rfl)
               obtain ⟨⟨r2162, r2163, r2164⟩, hp2165, h⟩ := bnd h
               refine WL.call (vals := [Value.pointer (some ⟨p23, 0, none⟩)]) kok106 rfl rfl (c_vary_Get (A := imm O2062) (a0 := (bitio_Reader.mk c2053 c2056 c2057)) hf2161 hf2160.blk (fun k hk => imm_ne hf2160.lab rfl k hk) hp2165) ?_
               rintro vr2171 wd2170 ⟨z2166, rfl, hm2169, f2167, f2168⟩
               obtain ⟨O2172, hold2173, hnew2174, hst2175⟩ := adopt O2062 (fun k => 1) [12] hm2169 (memB hf2160.lab rfl)
               have hf2176 : Sl Rep.b wd2170 (imm O2172) z2166 r2164.b := Sl.adoptI (O := O2062) f2167 (fun _ hk => hk) (fun _ _ => Nat.le_refl _) hold2173 hnew2174
               have hb2177 : Blk 12 O2172 wd2170 p23 107 [z2166, vi r2164.n, vi r2164.at_] := Blk.adopt hf2160 hold2173 f2168
               refine WL.y (Y.move rfl) rfl ?_
               refine WL.y (Y.extract rfl rfl) rfl ?_
               refine WL.y (Y.extract rfl rfl) rfl ?_
               refine WL.y (Y.assign rfl) rfl ?_
               refine WL.y (Y.assign rfl) rfl ?_
               refine WL.nil ?_
               refine At.then ?_
               refine WC.seq ?_
               refine WC.region ?_
               refine WL.y (Y.move rfl) rfl ?_
               refine WL.y (Y.move rfl) rfl ?_
               refine WL.y (Y.nilCheck rfl) rfl ?_
               refine WL.y (Y.fieldAddr fo117_1 rfl) rfl ?_
               have hf2178 := hf2156.st hst2175 rfl
               refine WL.store (v := vi r2163) (cells' := [Value.pointer (some ⟨p23, 0, none⟩), vi r2163]) ty32 rfl rfl hf2178 rfl (Nat.le_of_ble_eq_true rfl) rfl rfl ?_
               intro wd2179 hst2180 hb2181
               refine WL.nil ?_
               refine At.then ?_
               refine WC.seq ?_
               refine WC.region ?_
               refine WL.y (Y.move rfl) rfl ?_
               refine WL.y (Y.assign rfl) rfl ?_
               refine WL.nil ?_
               refine At.then ?_
               refine WC.ret ?_
               have hf2182 := hf2176.mono (imm_st hst2180 rfl rfl)
               have hf2183 := hb2177.st hst2180 rfl
               exact At.res (.inl rfl) rfl (.tmp rfl .nil) ⟨(r2164.b, r2164.n, r2164.at_, r2163, r2162, O2172, z2166), ⟨some1 h, (Stp.trans (Stp.up hst2175 rfl) (Stp.up hst2180 rfl)), hf2182, hf2183, hb2181⟩, rfl⟩
             ·rintro ⟨c2143, c2146, c2147, c2149, x2150, O2151, v2144⟩ wd2152 ⟨rfl, hst2153, hf2145, hb2142, hb2148⟩
              replace h := hk2155
              try dsimp only at h hst2153 hf2145 hb2142 hb2148
              refine (show WL _ _ _ _ _ ((6, vu x2150) :: _) _ from ?_)
              refine WL.y (Y.assign rfl) rfl ?_
              refine WL.nil ?_
              refine At.then ?_
              refine WC.seq ?_
              obtain ⟨p2184, h, hk2185⟩ := bnd h
              refine WC.join (σ := Unit) (fun x w' => () = p2184 ∧ wd2152 = w') (fun x => [(1, Value.pointer (some ⟨p1683, 0, none⟩)), (4, vu x2150)]) ?_ ?_
              ·refine WC.seq ?_
               refine WC.region ?_
               have hf2186 := hb2059.st hst2094 rfl
               have hf2187 := hf2186.st hst2153 rfl
               refine WL.y (Y.loadSc ty3 rfl rfl (hf2187.cell 0 _ rfl)) rfl ?_
               have hf2188 := hb1672.st hst1681 rfl
               have hf2189 := hf2188.st hst1686 rfl
               have hf2190 := hf2189.st hst1688 rfl
               have hf2191 := hf2190.st hst1703 rfl
               have hf2192 := hf2191.st hst1801 rfl
               have hf2193 := hf2192.st hst1827 rfl
               have hf2194 := hf2193.st hst2064 rfl
               have hf2195 := hf2194.st hst2094 rfl
               have hf2196 := hf2195.st hst2153 rfl
               refine WL.y (Y.loadSc ty23 rfl rfl (hf2196.cell 0 _ rfl)) rfl ?_
               refine WL.y (Y.len (R := Rep.u) (xs := []) (A := fun _ => True) ty23 rfl (Or.inl ⟨rfl, rfl⟩)) rfl ?_
               refine WL.y (Y.lss_i rfl rfl) rfl ?_
               refine WL.nil ?_
               refine At.then ?_
               rcases cnd h with ⟨hc2197, h⟩ | ⟨hc2197, h⟩
               ·refine WC.condT' rfl hc2197 ?_
                refine WC.region ?_
                refine WL.y (Y.move rfl) rfl ?_
                refine WL.y (Y.loadSc ty23 rfl rfl (hf2196.cell 0 _ rfl)) rfl ?_
                refine WL.y (Y.loadSc ty3 rfl rfl (hf2187.cell 0 _ rfl)) rfl ?_
                obtain ⟨e2198, he2198, h⟩ := bnd h
                simp [idx] at he2198
               ·refine WC.condF' rfl hc2197 ?_
                refine WC.skip ?_
                exact At.join (σ := Unit) () ⟨some1 h, rfl⟩ (.cons rfl (.cons rfl .nil))
              ·rintro _ _ ⟨rfl, rfl⟩
               replace h := hk2185
               refine (show At _ _ _ [(1, Value.pointer (some ⟨p1683, 0, none⟩)), (4, vu x2150)] _ from ?_)
               refine At.then ?_
               refine WC.seq ?_
               refine WC.region ?_
               have hf2207 := hb2059.st hst2094 rfl
               have hf2208 := hf2207.st hst2153 rfl
               refine WL.y (Y.loadSc ty3 rfl rfl (hf2208.cell 0 _ rfl)) rfl ?_
               refine WL.y (Y.add_i rfl rfl) rfl ?_
               obtain ⟨t2209, ht2209, h⟩ := lt1 h
               refine WL.ren 18 rfl (congrArg vi ht2209.symm) ?_
               refine WL.store (v := vi t2209) (cells' := [vi t2209]) ty3 rfl rfl hf2208 rfl (Nat.le_of_ble_eq_true rfl) rfl rfl ?_
               intro wd2210 hst2211 hb2212
               refine WL.nil ?_
               refine At.then ?_
               refine WC.seq ?_
               refine WC.region ?_
               refine WL.y (Y.move rfl) rfl ?_
               refine WL.y (Y.assign rfl) rfl ?_
               refine WL.nil ?_
               refine At.then ?_
               refine WC.ret ?_
               have hf2213 := hf2145.mono (imm_st hst2211 rfl rfl)
               have hf2214 := hb2142.st hst2211 rfl
               have hf2215 := hb2148.st hst2211 rfl
               exact At.res (.inl rfl) rfl (.tmp rfl .nil) ⟨(c2143, c2146, c2147, c2149, t2209, x2150, O2151, v2144), ⟨some1 h, (Stp.trans (Stp.up hst2153 rfl) (Stp.up hst2211 rfl)), hf2213, hf2214, hf2215, hb2212⟩, rfl⟩
            ·rintro ⟨c2121, c2124, c2125, c2126, c2128, x2129, O2130, v2122⟩ wd2131 ⟨rfl, hst2132, hf2123, hb2120, hb2119, hb2127⟩
             replace h := hk2134
             try dsimp only at h hst2132 hf2123 hb2120 hb2119 hb2127
             refine (show WL _ _ _ _ _ ((51, vu x2129) :: _) _ from ?_)
             refine WL.nil ?_
             refine At.dq (Stp.up hst2132 rfl) ?_
             obtain ⟨e2216, he2216, h⟩ := bnd h
             have hf2225 := hf2050.st hst2094 rfl rfl rfl
             have hf2226 := hf2225.st hst2132 rfl rfl rfl
             obtain ⟨b2217, cap2224, cs2223, hv2218, hi2219, hl2220, hc2221, hok2222⟩ := OwnSl.at hf2226 he2216
             obtain rfl := hok2222
             replace hc2221 : CellsAt _ _ _ [vu e2216] := hc2221
             have hca2227 := CAt.own hf2226 hv2218 hc2221
             refine WD.y 8 rfl (by kernel_rfl) (fun _ _ _ => Y.indexAddr ty23 ty22 rfl hv2218 rfl hi2219 hl2220) rfl ?_
             refine WD.phase [1023] [0, 1, 2, 3, 4, 5, 6, 7, 8, 9] (by kernel_rfl) (by kernel_rfl) ?_
             refine WD.heavy 9 rfl (by kernel_rfl) ?_
             obtain ⟨xs2231, hxs2231, h⟩ := bnd h
             refine WL.storeOwn (by decide) ty22 rfl rfl rfl hf2226 hv2218 hxs2231 ?_
             intro wd2232 hst2233 ho2234
             refine WL.nil ?_
             refine At.dq (Stp.up hst2233 rfl) ?_
             refine WD.done_ (by kernel_rfl) ?_
             refine At.inBlock ?_
             refine At.then ?_
             refine WC.region ?_
             refine WL.y (Y.add_i rfl rfl) rfl ?_
             refine WL.y (Y.move rfl) rfl ?_
             refine WL.nil ?_
             have hf2235 := hf2123.mono (imm_st hst2233 rfl rfl)
             have hf2236 := hb2120.st hst2233 rfl
             have hf2237 := hb2119.st hst2233 rfl
             have hf2238 := hb2127.st hst2233 rfl
             exact At.round (xs2231, c2121, c2124, c2125, c2126, c2128, w64 (x2061 + 1), O2130, v2122) j2089 (Nat.lt_succ_self _) ⟨next1 h hn2091, (Stp.trans (Stp.up hst2064 rfl) (Stp.trans (Stp.up hst2094 rfl) (Stp.trans (Stp.up hst2132 rfl) (Stp.up hst2233 rfl)))), ho2234, hf2235, hf2236, hf2237, hf2238⟩ (.cons rfl (.cons rfl (.cons rfl (.cons rfl .nil))))
           ·refine WC.condF' rfl hc2092 ?_
            refine WC.exit ?_
            refine At.thenX ?_
            refine At.loopX ?_
            obtain ⟨O2239, hst2240, ho2241⟩ := OwnSl.rlb 1024 rfl hf2050
            have hf2242 := hf2055.mono (imm_st hst2240 rfl rfl)
            have hf2243 := hb2052.st hst2240 rfl
            have hf2244 := hb2051.st hst2240 rfl
            exact At.hitB (σ := (List UInt8 × Int × Int × Int × List UInt64 × Own × Value)) (c2053, c2056, c2057, c2058, c2048, O2239, v2054) ⟨brk1 h hn2091, (Stp.trans (Stp.up hst2064 rfl) (Stp.up hst2240 rfl)), hf2242, hf2243, hf2244, ho2241⟩ .nil
          ·rintro ⟨c2066, c2069, c2070, c2072, c2073, O2076, v2067⟩ wd2077 ⟨rfl, hst2078, hf2068, hb2065, hb2071, hf2075⟩
           replace h := flowK_go hk2081
           try dsimp only at h hst2078 hf2068 hb2065 hb2071 hf2075
           refine (show At _ _ _ [] _ from ?_)
           refine At.inBlockHit ?_
           have hf2245 := hf1814.st hst2078 rfl rfl rfl
           obtain ⟨O2246, hst2247, ho2248⟩ := OwnSl.rlb 1028 rfl hf2245
           have hf2249 := hf2075.st hst2247 rfl rfl rfl
           obtain ⟨O2250, hst2251, ho2252⟩ := OwnSl.rlb 1029 rfl hf2249
           have hf2253 := hf2068.mono (imm_st hst2247 rfl rfl)
           have hf2254 := hf2253.mono (imm_st hst2251 rfl rfl)
           have hf2255 := hb2065.st hst2247 rfl
           have hf2256 := hf2255.st hst2251 rfl
           have hf2257 := hb2071.st hst2247 rfl
           have hf2258 := hf2257.st hst2251 rfl
           have hf2259 := ho2248.st hst2251 rfl rfl rfl
           have hf2260 := hf2039.st hst2078 rfl
           have hf2261 := hf2260.st hst2247 rfl
           have hf2262 := hf2261.st hst2251 rfl
           exact At.res (.inr rfl) rfl .nil ⟨(c2066, c2069, c2070, c2072, x1700, c1812, c2073, O2250, v2067), ⟨some1 h, (Stp.trans (Stp.up hst1676 rfl) (Stp.trans (Stp.up hst1681 rfl) (Stp.trans (Stp.up hst1686 rfl) (Stp.trans (Stp.up hst1688 rfl) (Stp.trans (Stp.up hst1703 rfl) (Stp.trans (Stp.up hst1801 rfl) (Stp.trans (Stp.up hst1827 rfl) (Stp.trans (Stp.up hst2078 rfl) (Stp.trans (Stp.up hst2247 rfl) (Stp.up hst2251 rfl)))))))))), hf2254, hf2256, hf2258, hf2259, ho2252, hf2262⟩, rfl⟩
       ·rintro ⟨c1652, c1655, c1656, c1658, c1660, c1661, c1664, O1667, v1653⟩ wd1668 ⟨rfl, hst1669, hf1654, hb1651, hb1657, hf1663, hf1666, hb1659⟩
        replace h := hk1671
        try dsimp only at h hst1669 hf1654 hb1651 hb1657 hf1663 hf1666 hb1659
        refine (show WL _ _ _ _ _ ((47, Value.tuple (List.toArray [])) :: _) _ from ?_)
        refine WL.nil ?_
        refine At.then ?_
        refine WC.seq ?_
        obtain ⟨p2268, h, hk2269⟩ := bnd h
        refine WC.join (σ := (Int × Own)) (fun x w' => x.1 = p2268 ∧ Stp [13] O1667 wd1668 x.2 w' ∧ Blk 13 x.2 w' p37 117 [Value.pointer (some ⟨p23, 0, none⟩), vi x.1]) (fun x => [(0, Value.pointer (some ⟨b0, 0, none⟩)), (1, Value.pointer (some ⟨b1, 0, none⟩)), (4, Value.pointer (some ⟨p17, 0, none⟩)), (6, Value.pointer (some ⟨p23, 0, none⟩)), (7, Value.pointer (some ⟨p42, 0, none⟩)), (8, Value.pointer (some ⟨p50, 0, none⟩))]) ?_ ?_
        ·refine WC.seq ?_
         refine WC.region ?_
         have hf2270 := hf1650.st hst1669 rfl
         refine WL.y (Y.loadSc ty115 rfl rfl (hf2270.cell 0 _ rfl)) rfl ?_
         refine WL.y (Y.nilCheck rfl) rfl ?_
         refine WL.y (Y.fieldAddr fo117_1 rfl) rfl ?_
         refine WL.y (Y.loadSc ty32 rfl rfl (hb1657.cell 1 _ rfl)) rfl ?_
         refine WL.y (Y.eql_i rfl rfl) rfl ?_
         refine WL.nil ?_
         refine At.then ?_
         rcases cnd h with ⟨hc2271, h⟩ | ⟨hc2271, h⟩
         ·refine WC.condT' rfl hc2271 ?_
          refine WC.drawH [] [0, 1, 2, 3, 4] O1667 6 fmix rfl (by kernel_rfl) ?_
          intro wd2272 hst2273
          refine WD.y 0 rfl (by kernel_rfl) (fun wd2275 O2274 hst2276 => have hf2277 := hf2270.st hst2273 rfl; have hf2278 := hf2277.st hst2276 rfl; Y.loadSc ty115 rfl rfl (hf2278.cell 0 _ rfl)) rfl ?_
          refine WD.y 1 rfl (by kernel_rfl) (fun wd2280 O2279 hst2281 => have hf2282 := hb1659.st hst2273 rfl; have hf2283 := hf2282.st hst2281 rfl; Y.loadAg ty27 rfl rfl (hf2283.cells 0 [vi t1055, vu c1660, vi x1071, (Value.slice p1347 m1348 c1349), vi x1365, (Value.slice p1641 m1642 c1643)] rfl) rfl) rfl ?_
          refine WD.heavy 2 rfl (by kernel_rfl) ?_
          have hf2284 := hf1663.st hst2273 rfl rfl rfl
          have hf2285 := hf1666.st hst2273 rfl rfl rfl
          obtain ⟨r2286, hp2287, h⟩ := bnd h
          refine WL.call (vals := [Value.agg (List.toArray [vi t1055, vu c1660, vi x1071, (Value.slice p1347 m1348 c1349), vi x1365, (Value.slice p1641 m1642 c1643)])]) kok19 rfl rfl (c_hist_Check (A := fun _ => True) (a0 := (api_Hist.mk t1055 c1660 (api_Side.mk x1071 c1661) (api_Side.mk x1365 c1664))) (hf2284.src.sl) (hf2285.src.sl) hp2287) ?_
          rintro vr2290 wd2289 ⟨rfl, hm2288⟩
          obtain ⟨O2291, hold2292, hnew2293, hst2294⟩ := adoptE O1667 (fun k => 1) hm2288
          refine WL.nil ?_
          refine At.dq (Stp.up hst2294 rfl) ?_
          refine WD.y 3 rfl (by kernel_rfl) (fun _ _ _ => Y.nilCheck rfl) rfl ?_
          refine WD.y 4 rfl (by kernel_rfl) (fun _ _ _ => Y.fieldAddr fo117_1 rfl) rfl ?_
          refine WD.phase [13] [0, 1, 2, 3, 4, 5] (by kernel_rfl) (by kernel_rfl) ?_
          refine WD.heavy 5 rfl (by kernel_rfl) ?_
          have hf2301 := hb1657.st hst2273 rfl
          have hf2302 := hf2301.st hst2294 rfl
          refine WL.store (v := vi r2286) (cells' := [Value.pointer (some ⟨p23, 0, none⟩), vi r2286]) ty32 rfl rfl hf2302 rfl (Nat.le_of_ble_eq_true rfl) rfl rfl ?_
          intro wd2303 hst2304 hb2305
          refine WL.nil ?_
          refine At.dq (Stp.up hst2304 rfl) ?_
          refine WD.done_ (by kernel_rfl) ?_
          exact At.join (σ := (Int × Own)) (r2286, O2291) ⟨some1 h, (Stp.trans (Stp.up hst2273 rfl) (Stp.trans (Stp.up hst2294 rfl) (Stp.up hst2304 rfl))), hb2305⟩ (.cons rfl (.cons rfl (.cons rfl (.cons rfl (.cons rfl (.cons rfl .nil))))))
         ·refine WC.condF' rfl hc2271 ?_
          refine WC.skip ?_
          exact At.join (σ := (Int × Own)) (c1658, O1667) ⟨some1 h, (Stp.refl _ _ _), hb1657⟩ (.cons rfl (.cons rfl (.cons rfl (.cons rfl (.cons rfl (.cons rfl .nil))))))
        ·rintro ⟨c2264, O2265⟩ wd2266 ⟨rfl, hst2267, hb2263⟩
         replace h := hk2269
         try dsimp only at h hst2267 hb2263
         refine (show At _ _ _ [(0, Value.pointer (some ⟨b0, 0, none⟩)), (1, Value.pointer (some ⟨b1, 0, none⟩)), (4, Value.pointer (some ⟨p17, 0, none⟩)), (6, Value.pointer (some ⟨p23, 0, none⟩)), (7, Value.pointer (some ⟨p42, 0, none⟩)), (8, Value.pointer (some ⟨p50, 0, none⟩))] _ from ?_)
         refine At.then ?_
         refine WC.seq ?_
         refine WC.drawH [] [0, 1, 2, 3, 4, 5, 6, 7, 8, 9, 10, 11, 12, 13, 14, 15, 16, 17, 18, 19, 20, 21] O2265 22 fmix rfl (by kernel_rfl) ?_
         intro wd2306 hst2307
         refine WD.y 0 rfl (by kernel_rfl) (fun wd2309 O2308 hst2310 => have hf2311 := hf1650.st hst1669 rfl; have hf2312 := hf2311.st hst2267 rfl; have hf2313 := hf2312.st hst2307 rfl; have hf2314 := hf2313.st hst2310 rfl; Y.loadSc ty115 rfl rfl (hf2314.cell 0 _ rfl)) rfl ?_
         refine WD.y 1 rfl (by kernel_rfl) (fun _ _ _ => Y.nilCheck rfl) rfl ?_
         refine WD.y 2 rfl (by kernel_rfl) (fun _ _ _ => Y.fieldAddr fo117_1 rfl) rfl ?_
         refine WD.y 3 rfl (by kernel_rfl) (fun wd2322 O2321 hst2323 => have hf2324 := hb2263.st hst2307 rfl; have hf2325 := hf2324.st hst2323 rfl; Y.loadSc ty32 rfl rfl (hf2325.cell 1 _ rfl)) rfl ?_
         refine WD.y 4 rfl (by kernel_rfl) (fun _ _ _ => Y.eql_i rfl rfl) rfl ?_
         refine WD.y 5 rfl (by kernel_rfl) (fun _ _ _ => Y.move rfl) rfl ?_
         refine WD.join (σ := Unit) (f' := 10) [11, 10, 9, 8, 7, 6, 5, 4, 3, 2, 1, 0] (fun _ O' w' => O2265 = O' ∧ wd2306 = w') (fun _ => [(0, Value.pointer (some ⟨b0, 0, none⟩)), (1, Value.pointer (some ⟨b1, 0, none⟩)), (4, Value.pointer (some ⟨p17, 0, none⟩)), (6, Value.pointer (some ⟨p23, 0, none⟩)), (7, Value.pointer (some ⟨p42, 0, none⟩)), (8, Value.pointer (some ⟨p50, 0, none⟩)), (69, Value.bool ((decide (c2264 = 0)) && (decide (0 < a0.n))))]) (fun hJ2332 => ?_) ?_
         ·refine WD.part 63 rfl (fun hE2333 => ?_) (fun hE2333 => ?_)
          ·refine WD.gT 6 rfl (by kernel_rfl) rfl rfl (fun _ _ _ => Y.move rfl) rfl ?_
           refine WD.gT 7 rfl (by kernel_rfl) rfl rfl (fun _ _ _ => Y.nilCheck rfl) rfl ?_
           refine WD.gT 8 rfl (by kernel_rfl) rfl rfl (fun _ _ _ => Y.fieldAddr fo88_0 rfl) rfl ?_
           refine WD.gT 9 rfl (by kernel_rfl) rfl rfl (fun wd2344 O2343 hst2345 => have hf2346 := hb13.st hst20 rfl; have hf2347 := hf2346.st hst26 rfl; have hf2348 := hf2347.st hst34 rfl; have hf2349 := hf2348.st hst40 rfl; have hf2350 := hf2349.st hst45 rfl; have hf2351 := hf2350.st hst47 rfl; have hf2352 := hf2351.st hst53 rfl; have hf2353 := hf2352.st hst90 rfl; have hf2354 := hf2353.st hst1025 rfl; have hf2355 := hf2354.st hst1059 rfl; have hf2356 := hf2355.st hst1077 rfl; have hf2357 := hf2356.st hst1353 rfl; have hf2358 := hf2357.st hst1371 rfl; have hf2359 := hf2358.st hst1647 rfl; have hf2360 := hf2359.st hst1669 rfl; have hf2361 := hf2360.st hst2267 rfl; have hf2362 := hf2361.st hst2307 rfl; have hf2363 := hf2362.st hst2345 rfl; Y.loadSc ty3 rfl rfl (hf2363.cell 0 _ rfl)) rfl ?_
           refine WD.gT 10 rfl (by kernel_rfl) rfl rfl (fun _ _ _ => Y.gtr_i rfl rfl) rfl ?_
           refine WD.y 11 rfl (by kernel_rfl) (fun _ _ _ => Y.pick (b := true) rfl rfl) rfl ?_
           refine WD.ren (v' := Value.bool ((decide (c2264 = 0)) && (decide (0 < a0.n)))) 69 rfl (congrArg Value.bool (andT hE2333)) ?_
           exact hJ2332 () _ _ _ ⟨rfl, rfl⟩ (.cons rfl (.cons rfl (.cons rfl (.cons rfl (.cons rfl (.cons rfl (.cons rfl .nil)))))))
          ·refine WD.gS 6 rfl (by kernel_rfl) rfl rfl rfl rfl ?_
           refine WD.gS 7 rfl (by kernel_rfl) rfl rfl rfl rfl ?_
           refine WD.gS 8 rfl (by kernel_rfl) rfl rfl rfl rfl ?_
           refine WD.gS 9 rfl (by kernel_rfl) rfl rfl rfl rfl ?_
           refine WD.gS 10 rfl (by kernel_rfl) rfl rfl rfl rfl ?_
           refine WD.y 11 rfl (by kernel_rfl) (fun _ _ _ => Y.pick (b := false) rfl rfl) rfl ?_
           refine WD.ren (v' := Value.bool ((decide (c2264 = 0)) && (decide (0 < a0.n)))) 69 rfl (congrArg Value.bool (andF hE2333)) ?_
           exact hJ2332 () _ _ _ ⟨rfl, rfl⟩ (.cons rfl (.cons rfl (.cons rfl (.cons rfl (.cons rfl (.cons rfl (.cons rfl .nil)))))))
         ·rintro _ _ _ ⟨rfl, rfl⟩
          refine (show WD _ _ _ _ _ _ _ _ [(0, Value.pointer (some ⟨b0, 0, none⟩)), (1, Value.pointer (some ⟨b1, 0, none⟩)), (4, Value.pointer (some ⟨p17, 0, none⟩)), (6, Value.pointer (some ⟨p23, 0, none⟩)), (7, Value.pointer (some ⟨p42, 0, none⟩)), (8, Value.pointer (some ⟨p50, 0, none⟩)), (69, Value.bool ((decide (c2264 = 0)) && (decide (0 < a0.n))))] _ _ from ?_)
          refine WD.y 12 rfl (by kernel_rfl) (fun _ _ _ => Y.move rfl) rfl ?_
          obtain ⟨p2380, h, hk2381⟩ := bnd h
          refine WD.join (σ := (Bool × Own)) (f' := 0) [21, 20, 19, 14, 18, 17, 16, 15, 13, 12, 11, 10, 9, 8, 7, 6, 5, 4, 3, 2, 1, 0] (fun x O' w' => x.1 = p2380 ∧ Stp [] O2265 wd2306 x.2 w' ∧ x.2 = O') (fun x => [(0, Value.pointer (some ⟨b0, 0, none⟩)), (1, Value.pointer (some ⟨b1, 0, none⟩)), (4, Value.pointer (some ⟨p17, 0, none⟩)), (6, Value.pointer (some ⟨p23, 0, none⟩)), (7, Value.pointer (some ⟨p42, 0, none⟩)), (8, Value.pointer (some ⟨p50, 0, none⟩)), (79, Value.bool x.1)]) (fun hJ2382 => ?_) ?_
          ·rcases cnd h with ⟨hE2383, h⟩ | ⟨hE2383, h⟩
           ·refine WD.ren 70 rfl (congrArg Value.bool hE2383) ?_
            refine WD.gT 13 rfl (by kernel_rfl) rfl rfl (fun wd2385 O2384 hst2386 => have hf2387 := hb1659.st hst2267 rfl; have hf2388 := hf2387.st hst2307 rfl; have hf2389 := hf2388.st hst2386 rfl; Y.loadAg ty27 rfl rfl (hf2389.cells 0 [vi t1055, vu c1660, vi x1071, (Value.slice p1347 m1348 c1349), vi x1365, (Value.slice p1641 m1642 c1643)] rfl) rfl) rfl ?_
            refine WD.gT 15 rfl (by kernel_rfl) rfl rfl (fun _ _ _ => Y.move rfl) rfl ?_
            refine WD.gT 16 rfl (by kernel_rfl) rfl rfl (fun _ _ _ => Y.nilCheck rfl) rfl ?_
            refine WD.gT 17 rfl (by kernel_rfl) rfl rfl (fun _ _ _ => Y.fieldAddr fo88_1 rfl) rfl ?_
            refine WD.gT 18 rfl (by kernel_rfl) rfl rfl (fun wd2400 O2399 hst2401 => have hf2402 := hb13.st hst20 rfl; have hf2403 := hf2402.st hst26 rfl; have hf2404 := hf2403.st hst34 rfl; have hf2405 := hf2404.st hst40 rfl; have hf2406 := hf2405.st hst45 rfl; have hf2407 := hf2406.st hst47 rfl; have hf2408 := hf2407.st hst53 rfl; have hf2409 := hf2408.st hst90 rfl; have hf2410 := hf2409.st hst1025 rfl; have hf2411 := hf2410.st hst1059 rfl; have hf2412 := hf2411.st hst1077 rfl; have hf2413 := hf2412.st hst1353 rfl; have hf2414 := hf2413.st hst1371 rfl; have hf2415 := hf2414.st hst1647 rfl; have hf2416 := hf2415.st hst1669 rfl; have hf2417 := hf2416.st hst2267 rfl; have hf2418 := hf2417.st hst2307 rfl; have hf2419 := hf2418.st hst2401 rfl; Y.loadAg ty27 rfl rfl (hf2419.cells 1 [vi a0.last.Scale, vu a0.last.Zero, vi a0.last.Pos.Offset, v0_4, vi a0.last.Neg.Offset, v0_6] rfl) rfl) rfl ?_
            refine WD.heavy 14 rfl (by kernel_rfl) ?_
            refine WL.ung rfl rfl ?_
            have hf2420 := hf1663.st hst2267 rfl rfl rfl
            have hf2421 := hf2420.st hst2307 rfl rfl rfl
            have hf2422 := hf1666.st hst2267 rfl rfl rfl
            have hf2423 := hf2422.st hst2307 rfl rfl rfl
            obtain ⟨r2424, hp2425, h⟩ := bnd h
            refine WL.call (vals := [Value.agg (List.toArray [vi t1055, vu c1660, vi x1071, (Value.slice p1347 m1348 c1349), vi x1365, (Value.slice p1641 m1642 c1643)])]) kok66 rfl rfl (c_histbits_of (A := fun _ => True) (a0 := (api_Hist.mk t1055 c1660 (api_Side.mk x1071 c1661) (api_Side.mk x1365 c1664))) (hf2421.src.sl) (hf2423.src.sl) hp2425) ?_
            rintro vr2428 wd2427 ⟨rfl, hm2426⟩
            obtain ⟨O2429, hold2430, hnew2431, hst2432⟩ := adoptE O2265 (fun k => 1) hm2426
            refine WL.nil ?_
            refine At.dq (Stp.up hst2432 rfl) ?_
            refine WD.heavy 19 rfl (by kernel_rfl) ?_
            refine WL.ung rfl rfl ?_
            have hf2433 := ho11.st hst20 rfl rfl rfl
            have hf2434 := hf2433.st hst26 rfl rfl rfl
            have hf2435 := hf2434.st hst34 rfl rfl rfl
            have hf2436 := hf2435.st hst40 rfl rfl rfl
            have hf2437 := hf2436.st hst45 rfl rfl rfl
            have hf2438 := hf2437.st hst47 rfl rfl rfl
            have hf2439 := hf2438.st hst53 rfl rfl rfl
            have hf2440 := hf2439.st hst90 rfl rfl rfl
            have hf2441 := hf2440.st hst1025 rfl rfl rfl
            have hf2442 := hf2441.st hst1059 rfl rfl rfl
            have hf2443 := hf2442.st hst1077 rfl rfl rfl
            have hf2444 := hf2443.st hst1353 rfl rfl rfl
            have hf2445 := hf2444.st hst1371 rfl rfl rfl
            have hf2446 := hf2445.st hst1647 rfl rfl rfl
            have hf2447 := hf2446.st hst1669 rfl rfl rfl
            have hf2448 := hf2447.st hst2267 rfl rfl rfl
            have hf2449 := hf2448.st hst2307 rfl rfl rfl
            have hf2450 := hf2449.st hst2432 rfl rfl rfl
            have hf2451 := ho12.st hst20 rfl rfl rfl
            have hf2452 := hf2451.st hst26 rfl rfl rfl
            have hf2453 := hf2452.st hst34 rfl rfl rfl
            have hf2454 := hf2453.st hst40 rfl rfl rfl
            have hf2455 := hf2454.st hst45 rfl rfl rfl
            have hf2456 := hf2455.st hst47 rfl rfl rfl
            have hf2457 := hf2456.st hst53 rfl rfl rfl
            have hf2458 := hf2457.st hst90 rfl rfl rfl
            have hf2459 := hf2458.st hst1025 rfl rfl rfl
            have hf2460 := hf2459.st hst1059 rfl rfl rfl
            have hf2461 := hf2460.st hst1077 rfl rfl rfl
            have hf2462 := hf2461.st hst1353 rfl rfl rfl
            have hf2463 := hf2462.st hst1371 rfl rfl rfl
            have hf2464 := hf2463.st hst1647 rfl rfl rfl
            have hf2465 := hf2464.st hst1669 rfl rfl rfl
            have hf2466 := hf2465.st hst2267 rfl rfl rfl
            have hf2467 := hf2466.st hst2307 rfl rfl rfl
            have hf2468 := hf2467.st hst2432 rfl rfl rfl
            obtain ⟨r2469, hp2470, h⟩ := bnd h
            refine WL.call (vals := [Value.agg (List.toArray [vi a0.last.Scale, vu a0.last.Zero, vi a0.last.Pos.Offset, v0_4, vi a0.last.Neg.Offset, v0_6])]) kok66 rfl rfl (c_histbits_of (A := fun _ => True) (a0 := a0.last) (hf2450.src.sl) (hf2468.src.sl) hp2470) ?_
            rintro vr2473 wd2472 ⟨rfl, hm2471⟩
            obtain ⟨O2474, hold2475, hnew2476, hst2477⟩ := adoptE O2429 (fun k => 1) hm2471
            refine WL.nil ?_
            refine At.dq (Stp.up hst2477 rfl) ?_
            refine WD.gT 20 rfl (by kernel_rfl) rfl rfl (fun _ _ _ => Y.eql_ag agok90 rfl rfl (EqF.cons (by decide) (fun w => run_part_plain w (by kernel_rfl) rfl) (fun w => run_part_plain w (by kernel_rfl) rfl) (EqV.i (a := r2424.scale) (b := r2469.scale) ty3.u) (EqF.cons (by decide) (fun w => run_part_plain w (by kernel_rfl) rfl) (fun w => run_part_plain w (by kernel_rfl) rfl) (EqV.i (a := r2424.posAt) (b := r2469.posAt) ty3.u) (EqF.cons (by decide) (fun w => run_part_plain w (by kernel_rfl) rfl) (fun w => run_part_plain w (by kernel_rfl) rfl) (EqV.i (a := r2424.posSize) (b := r2469.posSize) ty3.u) (EqF.cons (by decide) (fun w => run_part_plain w (by kernel_rfl) rfl) (fun w => run_part_plain w (by kernel_rfl) rfl) (EqV.i (a := r2424.negAt) (b := r2469.negAt) ty3.u) (EqF.cons (by decide) (fun w => run_part_plain w (by kernel_rfl) rfl) (fun w => run_part_plain w (by kernel_rfl) rfl) (EqV.i (a := r2424.negSize) (b := r2469.negSize) ty3.u) EqF.nil)))))) rfl ?_
            refine WD.y 21 rfl (by kernel_rfl) (fun _ _ _ => Y.pick (b := true) rfl rfl) rfl ?_
            refine WD.ren 70 rfl (congrArg Value.bool hE2383.symm) ?_
            exact hJ2382 ((decide (r2424.scale = r2469.scale) && (decide (r2424.posAt = r2469.posAt) && (decide (r2424.posSize = r2469.posSize) && (decide (r2424.negAt = r2469.negAt) && (decide (r2424.negSize = r2469.negSize) && true))))), O2474) _ _ _ ⟨some1 h, (Stp.trans (Stp.up hst2432 rfl) (Stp.up hst2477 rfl)), rfl⟩ (.cons rfl (.cons rfl (.cons rfl (.cons rfl (.cons rfl (.cons rfl (.cons rfl .nil)))))))
           ·refine WD.ren 70 rfl (congrArg Value.bool hE2383) ?_
            refine WD.gS 13 rfl (by kernel_rfl) rfl rfl rfl rfl ?_
            refine WD.gS 15 rfl (by kernel_rfl) rfl rfl rfl rfl ?_
            refine WD.gS 16 rfl (by kernel_rfl) rfl rfl rfl rfl ?_
            refine WD.gS 17 rfl (by kernel_rfl) rfl rfl rfl rfl ?_
            refine WD.gS 18 rfl (by kernel_rfl) rfl rfl rfl rfl ?_
            refine WD.heavy 14 rfl (by kernel_rfl) ?_
            refine WL.gS rfl rfl rfl rfl ?_
            refine WL.nil ?_
            refine At.dq (Stp.refl _ _ _) ?_
            refine WD.heavy 19 rfl (by kernel_rfl) ?_
            refine WL.gS rfl rfl rfl rfl ?_
            refine WL.nil ?_
            refine At.dq (Stp.refl _ _ _) ?_
            refine WD.gS 20 rfl (by kernel_rfl) rfl rfl rfl rfl ?_
            refine WD.y 21 rfl (by kernel_rfl) (fun _ _ _ => Y.pick (b := false) rfl rfl) rfl ?_
            refine WD.ren 70 rfl (congrArg Value.bool hE2383.symm) ?_
            exact hJ2382 (false, O2265) _ _ _ ⟨some1 h, (Stp.refl _ _ _), rfl⟩ (.cons rfl (.cons rfl (.cons rfl (.cons rfl (.cons rfl (.cons rfl (.cons rfl .nil)))))))
          ·rintro ⟨x2376, O2377⟩ _ wd2378 ⟨rfl, hst2379, rfl⟩
           replace h := hk2381
           try dsimp only at h hst2379
           refine (show WD _ _ _ _ _ _ _ _ [(0, Value.pointer (some ⟨b0, 0, none⟩)), (1, Value.pointer (some ⟨b1, 0, none⟩)), (4, Value.pointer (some ⟨p17, 0, none⟩)), (6, Value.pointer (some ⟨p23, 0, none⟩)), (7, Value.pointer (some ⟨p42, 0, none⟩)), (8, Value.pointer (some ⟨p50, 0, none⟩)), (79, Value.bool x2376)] _ _ from ?_)
           refine WD.done_ (by kernel_rfl) ?_
           refine At.then ?_
           rcases cnd h with ⟨hc2487, h⟩ | ⟨hc2487, h⟩
           ·refine WC.condT' rfl hc2487 ?_
            refine WC.region ?_
            have hf2488 := hf1650.st hst1669 rfl
            have hf2489 := hf2488.st hst2267 rfl
            have hf2490 := hf2489.st hst2307 rfl
            have hf2491 := hf2490.st hst2379 rfl
            refine WL.y (Y.loadSc ty115 rfl rfl (hf2491.cell 0 _ rfl)) rfl ?_
            refine WL.y (Y.nilCheck rfl) rfl ?_
            refine WL.y (Y.fieldAddr fo117_1 rfl) rfl ?_
            have hf2492 := hb2263.st hst2307 rfl
            have hf2493 := hf2492.st hst2379 rfl
            refine WL.store (v := vi 3) (cells' := [Value.pointer (some ⟨p23, 0, none⟩), vi 3]) ty32 rfl rfl hf2493 rfl (Nat.le_of_ble_eq_true rfl) rfl rfl ?_
            intro wd2494 hst2495 hb2496
            refine WL.nil ?_
            have hf2497 := hf1663.st hst2267 rfl rfl rfl
            have hf2498 := hf2497.st hst2307 rfl rfl rfl
            have hf2499 := hf2498.st hst2379 rfl rfl rfl
            have hf2500 := hf2499.st hst2495 rfl rfl rfl
            obtain ⟨O2501, hst2502, ho2503⟩ := OwnSl.rlb 1045 rfl hf2500
            have hf2504 := hf1666.st hst2267 rfl rfl rfl
            have hf2505 := hf2504.st hst2307 rfl rfl rfl
            have hf2506 := hf2505.st hst2379 rfl rfl rfl
            have hf2507 := hf2506.st hst2495 rfl rfl rfl
            have hf2508 := hf2507.st hst2502 rfl rfl rfl
            obtain ⟨O2509, hst2510, ho2511⟩ := OwnSl.rlb 1046 rfl hf2508
            have hf2512 := hf1654.mono (imm_st hst2267 rfl rfl)
            have hf2513 := hf2512.mono (imm_st hst2307 rfl rfl)
            have hf2514 := hf2513.mono (imm_st hst2379 rfl rfl)
            have hf2515 := hf2514.mono (imm_st hst2495 rfl rfl)
            have hf2516 := hf2515.mono (imm_st hst2502 rfl rfl)
            have hf2517 := hf2516.mono (imm_st hst2510 rfl rfl)
            have hf2518 := hb1651.st hst2267 rfl
            have hf2519 := hf2518.st hst2307 rfl
            have hf2520 := hf2519.st hst2379 rfl
            have hf2521 := hf2520.st hst2495 rfl
            have hf2522 := hf2521.st hst2502 rfl
            have hf2523 := hf2522.st hst2510 rfl
            have hf2524 := hb2496.st hst2502 rfl
            have hf2525 := hf2524.st hst2510 rfl
            have hf2526 := ho2503.st hst2510 rfl rfl rfl
            have hf2527 := hb1659.st hst2267 rfl
            have hf2528 := hf2527.st hst2307 rfl
            have hf2529 := hf2528.st hst2379 rfl
            have hf2530 := hf2529.st hst2495 rfl
            have hf2531 := hf2530.st hst2502 rfl
            have hf2532 := hf2531.st hst2510 rfl
            exact At.join (σ := (List UInt8 × Int × Int × Int × Int × UInt64 × Int × List UInt64 × Int × List UInt64 × Own × Value × Value × Value)) (c1652, c1655, c1656, 3, t1055, c1660, x1071, c1661, x1365, c1664, O2509, v1653, (Value.slice p1347 m1348 c1349), (Value.slice p1641 m1642 c1643)) ⟨go2 h, (Stp.trans (Stp.up hst90 rfl) (Stp.trans (Stp.up hst1025 rfl) (Stp.trans (Stp.up hst1059 rfl) (Stp.trans (Stp.up hst1077 rfl) (Stp.trans (Stp.up hst1353 rfl) (Stp.trans (Stp.up hst1371 rfl) (Stp.trans (Stp.up hst1647 rfl) (Stp.trans (Stp.up hst1669 rfl) (Stp.trans (Stp.up hst2267 rfl) (Stp.trans (Stp.up hst2307 rfl) (Stp.trans (Stp.up hst2379 rfl) (Stp.trans (Stp.up hst2495 rfl) (Stp.trans (Stp.up hst2502 rfl) (Stp.up hst2510 rfl)))))))))))))), hf2517, hf2523, hf2525, hf2526, ho2511, hf2532⟩ (.cons rfl (.cons rfl (.cons rfl (.cons rfl (.cons rfl (.cons rfl .nil))))))
           ·refine WC.condF' rfl hc2487 ?_
            refine WC.skip ?_
            have hf2533 := hf1663.st hst2267 rfl rfl rfl
            have hf2534 := hf2533.st hst2307 rfl rfl rfl
            have hf2535 := hf2534.st hst2379 rfl rfl rfl
            obtain ⟨O2536, hst2537, ho2538⟩ := OwnSl.rlb 1045 rfl hf2535
            have hf2539 := hf1666.st hst2267 rfl rfl rfl
            have hf2540 := hf2539.st hst2307 rfl rfl rfl
            have hf2541 := hf2540.st hst2379 rfl rfl rfl
            have hf2542 := hf2541.st hst2537 rfl rfl rfl
            obtain ⟨O2543, hst2544, ho2545⟩ := OwnSl.rlb 1046 rfl hf2542
            have hf2546 := hf1654.mono (imm_st hst2267 rfl rfl)
            have hf2547 := hf2546.mono (imm_st hst2307 rfl rfl)
            have hf2548 := hf2547.mono (imm_st hst2379 rfl rfl)
            have hf2549 := hf2548.mono (imm_st hst2537 rfl rfl)
            have hf2550 := hf2549.mono (imm_st hst2544 rfl rfl)
            have hf2551 := hb1651.st hst2267 rfl
            have hf2552 := hf2551.st hst2307 rfl
            have hf2553 := hf2552.st hst2379 rfl
            have hf2554 := hf2553.st hst2537 rfl
            have hf2555 := hf2554.st hst2544 rfl
            have hf2556 := hb2263.st hst2307 rfl
            have hf2557 := hf2556.st hst2379 rfl
            have hf2558 := hf2557.st hst2537 rfl
            have hf2559 := hf2558.st hst2544 rfl
            have hf2560 := ho2538.st hst2544 rfl rfl rfl
            have hf2561 := hb1659.st hst2267 rfl
            have hf2562 := hf2561.st hst2307 rfl
            have hf2563 := hf2562.st hst2379 rfl
            have hf2564 := hf2563.st hst2537 rfl
            have hf2565 := hf2564.st hst2544 rfl
            exact At.join (σ := (List UInt8 × Int × Int × Int × Int × UInt64 × Int × List UInt64 × Int × List UInt64 × Own × Value × Value × Value)) (c1652, c1655, c1656, c2264, t1055, c1660, x1071, c1661, x1365, c1664, O2543, v1653, (Value.slice p1347 m1348 c1349), (Value.slice p1641 m1642 c1643)) ⟨go2 h, (Stp.trans (Stp.up hst90 rfl) (Stp.trans (Stp.up hst1025 rfl) (Stp.trans (Stp.up hst1059 rfl) (Stp.trans (Stp.up hst1077 rfl) (Stp.trans (Stp.up hst1353 rfl) (Stp.trans (Stp.up hst1371 rfl) (Stp.trans (Stp.up hst1647 rfl) (Stp.trans (Stp.up hst1669 rfl) (Stp.trans (Stp.up hst2267 rfl) (Stp.trans (Stp.up hst2307 rfl) (Stp.trans (Stp.up hst2379 rfl) (Stp.trans (Stp.up hst2537 rfl) (Stp.up hst2544 rfl))))))))))))), hf2550, hf2555, hf2559, hf2560, ho2545, hf2565⟩ (.cons rfl (.cons rfl (.cons rfl (.cons rfl (.cons rfl (.cons rfl .nil))))))
 ·rintro ⟨c55, c58, c59, c61, c63, c64, c65, c66, c69, c70, O73, v56, v67, v71⟩ wd74 ⟨rfl, hst75, hf57, hb54, hb60, hf68, hf72, hb62⟩
  replace h := flowK_go hk77
  try dsimp only at h hst75 hf57 hb54 hb60 hf68 hf72 hb62
  refine (show At _ _ _ [(0, Value.pointer (some ⟨b0, 0, none⟩)), (1, Value.pointer (some ⟨b1, 0, none⟩)), (4, Value.pointer (some ⟨p17, 0, none⟩)), (6, Value.pointer (some ⟨p23, 0, none⟩)), (7, Value.pointer (some ⟨p42, 0, none⟩)), (8, Value.pointer (some ⟨p50, 0, none⟩))] _ from ?_)
  refine At.then ?_
  refine WC.seq ?_
  obtain ⟨p2571, h, hk2572⟩ := bnd h
  refine WC.join (σ := (Int × Own)) (fun x w' => x.1 = p2571 ∧ Stp [13] O73 wd74 x.2 w' ∧ Blk 13 x.2 w' p37 117 [Value.pointer (some ⟨p23, 0, none⟩), vi x.1]) (fun x => [(0, Value.pointer (some ⟨b0, 0, none⟩)), (1, Value.pointer (some ⟨b1, 0, none⟩)), (4, Value.pointer (some ⟨p17, 0, none⟩)), (6, Value.pointer (some ⟨p23, 0, none⟩)), (7, Value.pointer (some ⟨p42, 0, none⟩)), (8, Value.pointer (some ⟨p50, 0, none⟩))]) ?_ ?_
  ·refine WC.seq ?_
   refine WC.region ?_
   have hf2573 := hb48.st hst53 rfl
   have hf2574 := hf2573.st hst75 rfl
   refine WL.y (Y.loadSc ty115 rfl rfl (hf2574.cell 0 _ rfl)) rfl ?_
   refine WL.y (Y.nilCheck rfl) rfl ?_
   refine WL.y (Y.fieldAddr fo117_1 rfl) rfl ?_
   refine WL.y (Y.loadSc ty32 rfl rfl (hb60.cell 1 _ rfl)) rfl ?_
   refine WL.y (Y.eql_i rfl rfl) rfl ?_
   refine WL.nil ?_
   refine At.then ?_
   rcases cnd h with ⟨hc2575, h⟩ | ⟨hc2575, h⟩
   ·refine WC.condT' rfl hc2575 ?_
    refine WC.drawH [] [0, 1, 2, 3, 4] O73 6 fmix rfl (by kernel_rfl) ?_
    intro wd2576 hst2577
    refine WD.y 0 rfl (by kernel_rfl) (fun wd2579 O2578 hst2580 => have hf2581 := hf2574.st hst2577 rfl; have hf2582 := hf2581.st hst2580 rfl; Y.loadSc ty115 rfl rfl (hf2582.cell 0 _ rfl)) rfl ?_
    refine WD.y 1 rfl (by kernel_rfl) (fun wd2584 O2583 hst2585 => have hf2586 := hb62.st hst2577 rfl; have hf2587 := hf2586.st hst2585 rfl; Y.loadAg ty27 rfl rfl (hf2587.cells 0 [vi c63, vu c64, vi c65, v67, vi c69, v71] rfl) rfl) rfl ?_
    refine WD.heavy 2 rfl (by kernel_rfl) ?_
    have hf2588 := hf68.st hst2577 rfl rfl rfl
    have hf2589 := hf72.st hst2577 rfl rfl rfl
    obtain ⟨r2590, hp2591, h⟩ := bnd h
    refine WL.call (vals := [Value.agg (List.toArray [vi c63, vu c64, vi c65, v67, vi c69, v71])]) kok19 rfl rfl (c_hist_Check (A := fun _ => True) (a0 := (api_Hist.mk c63 c64 (api_Side.mk c65 c66) (api_Side.mk c69 c70))) (hf2588.src.sl) (hf2589.src.sl) hp2591) ?_
    rintro vr2594 wd2593 ⟨rfl, hm2592⟩
    obtain ⟨O2595, hold2596, hnew2597, hst2598⟩ := adoptE O73 (fun k => 1) hm2592
    refine WL.nil ?_
    refine At.dq (Stp.up hst2598 rfl) ?_
    refine WD.y 3 rfl (by kernel_rfl) (fun _ _ _ => Y.nilCheck rfl) rfl ?_
    refine WD.y 4 rfl (by kernel_rfl) (fun _ _ _ => Y.fieldAddr fo117_1 rfl) rfl ?_
    refine WD.phase [13] [0, 1, 2, 3, 4, 5] (by kernel_rfl) (by kernel_rfl) ?_
    refine WD.heavy 5 rfl (by kernel_rfl) ?_
    have hf2605 := hb60.st hst2577 rfl
    have hf2606 := hf2605.st hst2598 rfl
    refine WL.store (v := vi r2590) (cells' := [Value.pointer (some ⟨p23, 0, none⟩), vi r2590]) ty32 rfl rfl hf2606 rfl (Nat.le_of_ble_eq_true rfl) rfl rfl ?_
    intro wd2607 hst2608 hb2609
    refine WL.nil ?_
    refine At.dq (Stp.up hst2608 rfl) ?_
    refine WD.done_ (by kernel_rfl) ?_
    exact At.join (σ := (Int × Own)) (r2590, O2595) ⟨some1 h, (Stp.trans (Stp.up hst2577 rfl) (Stp.trans (Stp.up hst2598 rfl) (Stp.up hst2608 rfl))), hb2609⟩ (.cons rfl (.cons rfl (.cons rfl (.cons rfl (.cons rfl (.cons rfl .nil))))))
   ·refine WC.condF' rfl hc2575 ?_
    refine WC.skip ?_
    exact At.join (σ := (Int × Own)) (c61, O73) ⟨some1 h, (Stp.refl _ _ _), hb60⟩ (.cons rfl (.cons rfl (.cons rfl (.cons rfl (.cons rfl (.cons rfl .nil))))))
  ·rintro ⟨c2567, O2568⟩ wd2569 ⟨rfl, hst2570, hb2566⟩
   replace h := hk2572
   try dsimp only at h hst2570 hb2566
   refine (show At _ _ _ [(0, Value.pointer (some ⟨b0, 0, none⟩)), (1, Value.pointer (some ⟨b1, 0, none⟩)), (4, Value.pointer (some ⟨p17, 0, none⟩)), (6, Value.pointer (some ⟨p23, 0, none⟩)), (7, Value.pointer (some ⟨p42, 0, none⟩)), (8, Value.pointer (some ⟨p50, 0, none⟩))] _ from ?_)
   refine At.then ?_
   refine WC.seq ?_
   refine WC.seq ?_
   refine WC.region ?_
   have hf2610 := hb48.st hst53 rfl
   have hf2611 := hf2610.st hst75 rfl
   have hf2612 := hf2611.st hst2570 rfl
   refine WL.y (Y.loadSc ty115 rfl rfl (hf2612.cell 0 _ rfl)) rfl ?_
   refine WL.y (Y.nilCheck rfl) rfl ?_
   refine WL.y (Y.fieldAddr fo117_1 rfl) rfl ?_
   refine WL.y (Y.loadSc ty32 rfl rfl (hb2566.cell 1 _ rfl)) rfl ?_
   refine WL.y (Y.neq_i rfl rfl) rfl ?_
   refine WL.nil ?_
   refine At.then ?_
   rcases cnd h with ⟨hc2613, h⟩ | ⟨hc2613, h⟩
   ·refine WC.condT' rfl hc2613 ?_
    refine WC.seq ?_
    refine WC.drawH [11] [0, 1, 2, 3, 4, 5, 6] O2568 7 fmix rfl (by kernel_rfl) ?_
    intro wd2614 hst2615
    refine WD.y 0 rfl (by kernel_rfl) (fun _ _ _ => Y.build (vals := []) (cells := [vi 0, vu 0, vi 0, Value.slice none 0 0, vi 0, Value.slice none 0 0]) (Fits.evalp rfl) (by kernel_rfl)) rfl ?_
    refine WD.y 1 rfl (by kernel_rfl) (fun wd2620 O2619 hst2621 => have hf2622 := hf2612.st hst2615 rfl; have hf2623 := hf2622.st hst2621 rfl; Y.loadSc ty115 rfl rfl (hf2623.cell 0 _ rfl)) rfl ?_
    refine WD.y 2 rfl (by kernel_rfl) (fun _ _ _ => Y.nilCheck rfl) rfl ?_
    refine WD.y 3 rfl (by kernel_rfl) (fun _ _ _ => Y.fieldAddr fo117_1 rfl) rfl ?_
    refine WD.y 4 rfl (by kernel_rfl) (fun wd2631 O2630 hst2632 => have hf2633 := hb2566.st hst2615 rfl; have hf2634 := hf2633.st hst2632 rfl; Y.loadSc ty32 rfl rfl (hf2634.cell 1 _ rfl)) rfl ?_
    refine WD.heavy 5 rfl (by kernel_rfl) ?_
    have hf2635 := hb16.st hst26 rfl
    have hf2636 := hf2635.st hst34 rfl
    have hf2637 := hf2636.st hst40 rfl
    have hf2638 := hf2637.st hst45 rfl
    have hf2639 := hf2638.st hst47 rfl
    have hf2640 := hf2639.st hst53 rfl
    have hf2641 := hf2640.st hst75 rfl
    have hf2642 := hf2641.st hst2570 rfl
    have hf2643 := hf2642.st hst2615 rfl
    refine WL.store (v := Value.agg (List.toArray [vi 0, vu 0, vi 0, Value.slice none 0 0, vi 0, Value.slice none 0 0])) (cells' := [vi 0, vu 0, vi 0, Value.slice none 0 0, vi 0, Value.slice none 0 0]) ty27 rfl rfl hf2643 rfl (Nat.le_of_ble_eq_true rfl) rfl rfl ?_
    intro wd2644 hst2645 hb2646
    refine WL.nil ?_
    refine At.dq (Stp.up hst2645 rfl) ?_
    refine WD.y 6 rfl (by kernel_rfl) (fun _ _ _ => Y.assign rfl) rfl ?_
    refine WD.done_ (by kernel_rfl) ?_
    refine At.then ?_
    refine WC.ret ?_
    refine At.thenR ?_
    obtain ⟨rfl, rfl, rfl, rfl⟩ := tup4 h
    have hs2650 : Stp [11, 12, 13, 14, 15, 16, 17, 21, 22, 23, 24, 25, 26, 27, 30, 1001, 1002, 1004, 1005, 1006, 1010, 1011, 1013, 1015, 1016, 1018, 1019, 1020, 1022, 1023, 1024, 1028, 1029] (Lg.OB b0 3 (Lg.OV v0_4 4 (Lg.OV v0_6 5 (Lg.OB b1 6 (Lg.O0 A))))) w O2568 wd2644 := (Stp.trans (Stp.up hst20 rfl) (Stp.trans (Stp.up hst26 rfl) (Stp.trans (Stp.up hst34 rfl) (Stp.trans (Stp.up hst40 rfl) (Stp.trans (Stp.up hst45 rfl) (Stp.trans (Stp.up hst47 rfl) (Stp.trans (Stp.up hst53 rfl) (Stp.trans (Stp.up hst75 rfl) (Stp.trans (Stp.up hst2570 rfl) (Stp.trans (Stp.up hst2615 rfl) (Stp.up hst2645 rfl)))))))))))
    have hf2651 := hb13.st hst20 rfl
    have hf2652 := hf2651.st hst26 rfl
    have hf2653 := hf2652.st hst34 rfl
    have hf2654 := hf2653.st hst40 rfl
    have hf2655 := hf2654.st hst45 rfl
    have hf2656 := hf2655.st hst47 rfl
    have hf2657 := hf2656.st hst53 rfl
    have hf2658 := hf2657.st hst75 rfl
    have hf2659 := hf2658.st hst2570 rfl
    have hf2660 := hf2659.st hst2615 rfl
    have hf2661 := hf2660.st hst2645 rfl
    have hf2662 := ho11.st hst20 rfl rfl rfl
    have hf2663 := hf2662.st hst26 rfl rfl rfl
    have hf2664 := hf2663.st hst34 rfl rfl rfl
    have hf2665 := hf2664.st hst40 rfl rfl rfl
    have hf2666 := hf2665.st hst45 rfl rfl rfl
    have hf2667 := hf2666.st hst47 rfl rfl rfl
    have hf2668 := hf2667.st hst53 rfl rfl rfl
    have hf2669 := hf2668.st hst75 rfl rfl rfl
    have hf2670 := hf2669.st hst2570 rfl rfl rfl
    have hf2671 := hf2670.st hst2615 rfl rfl rfl
    have hf2672 := hf2671.st hst2645 rfl rfl rfl
    have hf2673 := ho12.st hst20 rfl rfl rfl
    have hf2674 := hf2673.st hst26 rfl rfl rfl
    have hf2675 := hf2674.st hst34 rfl rfl rfl
    have hf2676 := hf2675.st hst40 rfl rfl rfl
    have hf2677 := hf2676.st hst45 rfl rfl rfl
    have hf2678 := hf2677.st hst47 rfl rfl rfl
    have hf2679 := hf2678.st hst53 rfl rfl rfl
    have hf2680 := hf2679.st hst75 rfl rfl rfl
    have hf2681 := hf2680.st hst2570 rfl rfl rfl
    have hf2682 := hf2681.st hst2615 rfl rfl rfl
    have hf2683 := hf2682.st hst2645 rfl rfl rfl
    have hf2684 := hf21.st hst26 rfl
    have hf2685 := hf2684.st hst34 rfl
    have hf2686 := hf2685.st hst40 rfl
    have hf2687 := hf2686.st hst45 rfl
    have hf2688 := hf2687.st hst47 rfl
    have hf2689 := hf2688.st hst53 rfl
    have hf2690 := hf2689.st hst75 rfl
    have hf2691 := hf2690.st hst2570 rfl
    have hf2692 := hf2691.st hst2615 rfl
    have hf2693 := hf2692.st hst2645 rfl
    have hf2694 := hf28.mono (imm_st hst34 rfl rfl)
    have hf2695 := hf2694.mono (imm_st hst40 rfl rfl)
    have hf2696 := hf2695.mono (imm_st hst45 rfl rfl)
    have hf2697 := hf2696.mono (imm_st hst47 rfl rfl)
    have hf2698 := hf2697.mono (imm_st hst53 rfl rfl)
    have hf2699 := hf2698.mono (imm_st hst75 rfl rfl)
    have hf2700 := hf2699.mono (imm_st hst2570 rfl rfl)
    have hf2701 := hf2700.mono (imm_st hst2615 rfl rfl)
    have hf2702 := hf2701.mono (imm_st hst2645 rfl rfl)
    exact At.res (.inl rfl) rfl (.cell rfl (hb2646.runAg 0 [vi 0, vu 0, vi 0, Value.slice none 0 0, vi 0, Value.slice none 0 0] ty27 rfl rfl rfl) (.tmp rfl .nil)) ⟨Value.slice none 0 0, Value.slice none 0 0, v0_4, v0_6, (Value.slice p29 m30 c31), rfl, (Stp.modL hs2650 (sB (sV (sV sB1))) rfl rfl), RowF.nil, RowF.nil, (OwnSl.outG hf2672 hs2650 (lowB (lowV (lowV (lowB low0 rfl rfl) rfl rfl) rfl rfl) rfl rfl) (lsB (lbV (lnV (lnB (ln0 rfl) rfl) rfl)) rfl)), (OwnSl.outG hf2683 hs2650 (lowB (lowV (lowV (lowB low0 rfl rfl) rfl rfl) rfl rfl) rfl rfl) (lsB (lsV (lbV (lnB (ln0 rfl) rfl)) rfl) rfl)), hf2661.blk, (Sl.outIB hf2702 hs2650 (lowB (lowV (lowV (lowB low0 rfl rfl) rfl rfl) rfl rfl) rfl rfl) (aB (aV (aV (aB O0_A rfl) rfl) rfl) rfl) (fun k hk => ⟨not_nil, not_nil, not_own hf2672.labs rfl hk, not_own hf2683.labs rfl hk⟩)), hf2693.blk, (fun _ e => absurd e not_nil), (fun _ e => absurd e not_nil), (fun _ e => absurd e not_nil), (fun _ e => absurd e not_nil), (fun _ e => absurd e not_nil), (ne_own hf2672 hf2683 rfl)⟩
   ·refine WC.condF' rfl hc2613 ?_
    refine WC.skip ?_
    refine At.then ?_
    refine WC.seq ?_
    refine WC.region ?_
    refine WL.y (Y.move rfl) rfl ?_
    have hf2703 := hb54.st hst2570 rfl
    have hf2704 := hf57.mono (imm_st hst2570 rfl rfl)
    obtain ⟨r2705, hp2706, h⟩ := bnd h
    refine WL.call (vals := [Value.pointer (some ⟨p23, 0, none⟩)]) kok51 rfl rfl (c_bitio_Reader_At (A := fun _ => True) (a0 := (bitio_Reader.mk c55 c58 c59)) (Sl.all hf2704) hf2703.blk trivial hp2706) ?_
    rintro vr2709 wd2708 ⟨rfl, hm2707⟩
    obtain ⟨O2710, hold2711, hnew2712, hst2713⟩ := adoptE O2568 (fun k => 1) hm2707
    refine WL.y (Y.move rfl) rfl ?_
    have hf2714 := hf21.st hst26 rfl
    have hf2715 := hf2714.st hst34 rfl
    have hf2716 := hf2715.st hst40 rfl
    have hf2717 := hf2716.st hst45 rfl
    have hf2718 := hf2717.st hst47 rfl
    have hf2719 := hf2718.st hst53 rfl
    have hf2720 := hf2719.st hst75 rfl
    have hf2721 := hf2720.st hst2570 rfl
    have hf2722 := hf2721.st hst2713 rfl
    have hf2723 := hf28.mono (imm_st hst34 rfl rfl)
    have hf2724 := hf2723.mono (imm_st hst40 rfl rfl)
    have hf2725 := hf2724.mono (imm_st hst45 rfl rfl)
    have hf2726 := hf2725.mono (imm_st hst47 rfl rfl)
    have hf2727 := hf2726.mono (imm_st hst53 rfl rfl)
    have hf2728 := hf2727.mono (imm_st hst75 rfl rfl)
    have hf2729 := hf2728.mono (imm_st hst2570 rfl rfl)
    have hf2730 := hf2729.mono (imm_st hst2713 rfl rfl)
    obtain ⟨r2731, hp2732, h⟩ := bnd h
    refine WL.call (vals := [Value.pointer (some ⟨b1, 0, none⟩)]) kok51 rfl rfl (c_bitio_Reader_At (A := fun _ => True) (a0 := a1) (Sl.all hf2730) hf2722.blk trivial hp2732) ?_
    rintro vr2735 wd2734 ⟨rfl, hm2733⟩
    obtain ⟨O2736, hold2737, hnew2738, hst2739⟩ := adoptE O2710 (fun k => 1) hm2733
    refine WL.y (Y.sub_i rfl rfl) rfl ?_
    have hf2740 := hf2722.st hst2739 rfl
    have hf2741 := hf2730.mono (imm_st hst2739 rfl rfl)
    obtain ⟨⟨r2742, r2743⟩, hp2744, h⟩ := bnd h
    refine WL.call (vals := [Value.pointer (some ⟨b1, 0, none⟩), vi (w64 (r2705 - r2731))]) kok88 rfl rfl (c_bitio_Reader_Skip (A := imm O2736) (a0 := a1) hf2741 hf2740.blk (fun k hk => imm_ne hf2740.lab rfl k hk) hp2744) ?_
    rintro vr2750 wd2749 ⟨z2745, rfl, hm2748, f2746, f2747⟩
    obtain ⟨O2751, hold2752, hnew2753, hst2754⟩ := adopt O2736 (fun k => 1) [6] hm2748 (memB hf2740.lab rfl)
    have hf2755 : Sl Rep.b wd2749 (imm O2751) z2745 r2743.b := Sl.adoptI (O := O2736) f2746 (fun _ hk => hk) (fun _ _ => Nat.le_refl _) hold2752 hnew2753
    have hb2756 : Blk 6 O2751 wd2749 b1 107 [z2745, vi r2743.n, vi r2743.at_] := Blk.adopt hf2740 hold2752 f2747
    refine WL.nil ?_
    refine At.then ?_
    refine WC.seq ?_
    refine WC.region ?_
    refine WL.y (Y.move rfl) rfl ?_
    refine WL.y (Y.nilCheck rfl) rfl ?_
    refine WL.y (Y.fieldAddr fo88_0 rfl) rfl ?_
    have hf2757 := hb13.st hst20 rfl
    have hf2758 := hf2757.st hst26 rfl
    have hf2759 := hf2758.st hst34 rfl
    have hf2760 := hf2759.st hst40 rfl
    have hf2761 := hf2760.st hst45 rfl
    have hf2762 := hf2761.st hst47 rfl
    have hf2763 := hf2762.st hst53 rfl
    have hf2764 := hf2763.st hst75 rfl
    have hf2765 := hf2764.st hst2570 rfl
    have hf2766 := hf2765.st hst2713 rfl
    have hf2767 := hf2766.st hst2739 rfl
    have hf2768 := hf2767.st hst2754 rfl
    refine WL.y (Y.loadSc ty3 rfl rfl (hf2768.cell 0 _ rfl)) rfl ?_
    refine WL.y (Y.add_i rfl rfl) rfl ?_
    refine WL.y (Y.nilCheck rfl) rfl ?_
    refine WL.y (Y.fieldAddr fo88_0 rfl) rfl ?_
    obtain ⟨t2769, ht2769, h⟩ := lt1 h
    refine WL.ren 113 rfl (congrArg vi ht2769.symm) ?_
    refine WL.store (v := vi t2769) (cells' := [vi t2769, vi a0.last.Scale, vu a0.last.Zero, vi a0.last.Pos.Offset, v0_4, vi a0.last.Neg.Offset, v0_6]) ty3 rfl rfl hf2768 rfl (Nat.le_of_ble_eq_true rfl) rfl rfl ?_
    intro wd2770 hst2771 hb2772
    refine WL.nil ?_
    refine At.then ?_
    refine WC.seq ?_
    refine WC.region ?_
    refine WL.y (Y.move rfl) rfl ?_
    have hf2773 := hb62.st hst2570 rfl
    have hf2774 := hf2773.st hst2713 rfl
    have hf2775 := hf2774.st hst2739 rfl
    have hf2776 := hf2775.st hst2754 rfl
    have hf2777 := hf2776.st hst2771 rfl
    refine WL.y (Y.loadAg ty27 rfl rfl (hf2777.cells 0 [vi c63, vu c64, vi c65, v67, vi c69, v71] rfl) rfl) rfl ?_
    have hf2778 := hf68.st hst2570 rfl rfl rfl
    have hf2779 := hf2778.st hst2713 rfl rfl rfl
    have hf2780 := hf2779.st hst2739 rfl rfl rfl
    have hf2781 := hf2780.st hst2754 rfl rfl rfl
    have hf2782 := hf2781.st hst2771 rfl rfl rfl
    have hf2783 := hf72.st hst2570 rfl rfl rfl
    have hf2784 := hf2783.st hst2713 rfl rfl rfl
    have hf2785 := hf2784.st hst2739 rfl rfl rfl
    have hf2786 := hf2785.st hst2754 rfl rfl rfl
    have hf2787 := hf2786.st hst2771 rfl rfl rfl
    obtain ⟨r2788, hp2789, h⟩ := bnd h
    refine WL.call (vals := [Value.agg (List.toArray [vi c63, vu c64, vi c65, v67, vi c69, v71])]) kok45 rfl rfl (c_hist_Clone (A := fun _ => True) (a0 := (api_Hist.mk c63 c64 (api_Side.mk c65 c66) (api_Side.mk c69 c70))) (hf2782.src.sl) (hf2787.src.sl) hp2789) ?_
    rintro vr2797 wd2796 ⟨u2790, u2791, rfl, hm2795, f2792, f2793, f2794⟩
    obtain ⟨O2798, hold2799, hnew2800, hst2801⟩ := adoptE O2751 (fun k => if Value.ownBlock u2790 = some k then 31 else if Value.ownBlock u2791 = some k then 32 else 1) hm2795
    have hf2802 : OwnSl 31 Rep.u 22 O2798 wd2796 u2790 r2788.Pos.Counts := RowF.adopt 31 Flat.u f2792 hnew2800 (fun k hk => if_pos hk)
    have hf2803 : OwnSl 32 Rep.u 22 O2798 wd2796 u2791 r2788.Neg.Counts := RowF.adopt 32 Flat.u f2793 hnew2800 (fun k hk => (if_neg (fun (e : Value.ownBlock u2790 = some k) => f2794 k e hk)).trans (if_pos hk))
    refine WL.y (Y.nilCheck rfl) rfl ?_
    refine WL.y (Y.fieldAddr fo88_1 rfl) rfl ?_
    have hh2807 := h
    obtain ⟨p2804, m2805, c2806, rfl⟩ := hf2802.shape
    have h := hh2807
    have hh2811 := h
    obtain ⟨p2808, m2809, c2810, rfl⟩ := hf2803.shape
    have h := hh2811
    have hf2812 := hb2772.st hst2801 rfl
    refine WL.store (v := Value.agg (List.toArray [vi r2788.Scale, vu r2788.Zero, vi r2788.Pos.Offset, (Value.slice p2804 m2805 c2806), vi r2788.Neg.Offset, (Value.slice p2808 m2809 c2810)])) (cells' := [vi t2769, vi r2788.Scale, vu r2788.Zero, vi r2788.Pos.Offset, (Value.slice p2804 m2805 c2806), vi r2788.Neg.Offset, (Value.slice p2808 m2809 c2810)]) ty27 rfl rfl hf2812 rfl (Nat.le_of_ble_eq_true rfl) rfl rfl ?_
    intro wd2813 hst2814 hb2815
    refine WL.nil ?_
    refine At.then ?_
    refine WC.seq ?_
    refine WC.region ?_
    have hf2816 := hf2777.st hst2801 rfl
    have hf2817 := hf2816.st hst2814 rfl
    refine WL.y (Y.loadAg ty27 rfl rfl (hf2817.cells 0 [vi c63, vu c64, vi c65, v67, vi c69, v71] rfl) rfl) rfl ?_
    have hf2818 := hf2782.st hst2801 rfl rfl rfl
    have hf2819 := hf2818.st hst2814 rfl rfl rfl
    have hh2823 := h
    obtain ⟨p2820, m2821, c2822, rfl⟩ := hf2819.shape
    have h := hh2823
    have hf2824 := hf2787.st hst2801 rfl rfl rfl
    have hf2825 := hf2824.st hst2814 rfl rfl rfl
    have hh2829 := h
    obtain ⟨p2826, m2827, c2828, rfl⟩ := hf2825.shape
    have h := hh2829
    have hf2830 := hb16.st hst26 rfl
    have hf2831 := hf2830.st hst34 rfl
    have hf2832 := hf2831.st hst40 rfl
    have hf2833 := hf2832.st hst45 rfl
    have hf2834 := hf2833.st hst47 rfl
    have hf2835 := hf2834.st hst53 rfl
    have hf2836 := hf2835.st hst75 rfl
    have hf2837 := hf2836.st hst2570 rfl
    have hf2838 := hf2837.st hst2713 rfl
    have hf2839 := hf2838.st hst2739 rfl
    have hf2840 := hf2839.st hst2754 rfl
    have hf2841 := hf2840.st hst2771 rfl
    have hf2842 := hf2841.st hst2801 rfl
    have hf2843 := hf2842.st hst2814 rfl
    refine WL.store (v := Value.agg (List.toArray [vi c63, vu c64, vi c65, (Value.slice p2820 m2821 c2822), vi c69, (Value.slice p2826 m2827 c2828)])) (cells' := [vi c63, vu c64, vi c65, (Value.slice p2820 m2821 c2822), vi c69, (Value.slice p2826 m2827 c2828)]) ty27 rfl rfl hf2843 rfl (Nat.le_of_ble_eq_true rfl) rfl rfl ?_
    intro wd2844 hst2845 hb2846
    refine WL.y (Y.assign rfl) rfl ?_
    refine WL.nil ?_
    refine At.then ?_
    refine WC.ret ?_
    obtain ⟨rfl, rfl, rfl, rfl⟩ := tup4 h
    have hs2847 : Stp [3, 6, 11, 12, 13, 14, 15, 16, 17, 21, 22, 23, 24, 25, 26, 27, 30, 1001, 1002, 1004, 1005, 1006, 1010, 1011, 1013, 1015, 1016, 1018, 1019, 1020, 1022, 1023, 1024, 1028, 1029] (Lg.OB b0 3 (Lg.OV v0_4 4 (Lg.OV v0_6 5 (Lg.OB b1 6 (Lg.O0 A))))) w O2798 wd2844 := (Stp.trans (Stp.up hst20 rfl) (Stp.trans (Stp.up hst26 rfl) (Stp.trans (Stp.up hst34 rfl) (Stp.trans (Stp.up hst40 rfl) (Stp.trans (Stp.up hst45 rfl) (Stp.trans (Stp.up hst47 rfl) (Stp.trans (Stp.up hst53 rfl) (Stp.trans (Stp.up hst75 rfl) (Stp.trans (Stp.up hst2570 rfl) (Stp.trans (Stp.up hst2713 rfl) (Stp.trans (Stp.up hst2739 rfl) (Stp.trans (Stp.up hst2754 rfl) (Stp.trans (Stp.up hst2771 rfl) (Stp.trans (Stp.up hst2801 rfl) (Stp.trans (Stp.up hst2814 rfl) (Stp.up hst2845 rfl))))))))))))))))
    have hf2848 := hf2819.st hst2845 rfl rfl rfl
    have hf2849 := hf2825.st hst2845 rfl rfl rfl
    have hf2850 := hb2815.st hst2845 rfl
    have hf2851 := hf2802.st hst2814 rfl rfl rfl
    have hf2852 := hf2851.st hst2845 rfl rfl rfl
    have hf2853 := hf2803.st hst2814 rfl rfl rfl
    have hf2854 := hf2853.st hst2845 rfl rfl rfl
    have hf2855 := hb2756.st hst2771 rfl
    have hf2856 := hf2855.st hst2801 rfl
    have hf2857 := hf2856.st hst2814 rfl
    have hf2858 := hf2857.st hst2845 rfl
    have hf2859 := hf2755.mono (imm_st hst2771 rfl rfl)
    have hf2860 := hf2859.mono (imm_st hst2801 rfl rfl)
    have hf2861 := hf2860.mono (imm_st hst2814 rfl rfl)
    have hf2862 := hf2861.mono (imm_st hst2845 rfl rfl)
    exact At.res (.inl rfl) rfl (.cell rfl (hb2846.runAg 0 [vi c63, vu c64, vi c65, (Value.slice p2820 m2821 c2822), vi c69, (Value.slice p2826 m2827 c2828)] ty27 rfl rfl rfl) (.tmp rfl .nil)) ⟨(Value.slice p2820 m2821 c2822), (Value.slice p2826 m2827 c2828), (Value.slice p2804 m2805 c2806), (Value.slice p2808 m2809 c2810), z2745, rfl, (Stp.modL hs2847 (sB (sV (sV sB1))) rfl rfl), (OwnSl.outF hf2848 hs2847 (lowB (lowV (lowV (lowB low0 rfl rfl) rfl rfl) rfl rfl) rfl rfl) rfl), (OwnSl.outF hf2849 hs2847 (lowB (lowV (lowV (lowB low0 rfl rfl) rfl rfl) rfl rfl) rfl rfl) rfl), (RowF.g (OwnSl.outF hf2852 hs2847 (lowB (lowV (lowV (lowB low0 rfl rfl) rfl rfl) rfl rfl) rfl rfl) rfl)), (RowF.g (OwnSl.outF hf2854 hs2847 (lowB (lowV (lowV (lowB low0 rfl rfl) rfl rfl) rfl rfl) rfl rfl) rfl)), hf2850.blk, (Sl.outIB hf2862 hs2847 (lowB (lowV (lowV (lowB low0 rfl rfl) rfl rfl) rfl rfl) rfl rfl) (aB (aV (aV (aB O0_A rfl) rfl) rfl) rfl) (fun k hk => ⟨not_own hf2848.labs rfl hk, not_own hf2849.labs rfl hk, not_own hf2852.labs rfl hk, not_own hf2854.labs rfl hk⟩)), hf2858.blk, (ne_own hf2848 hf2849 rfl), (ne_own hf2848 hf2852 rfl), (ne_own hf2849 hf2852 rfl), (ne_own hf2848 hf2854 rfl), (ne_own hf2849 hf2854 rfl), (ne_own hf2852 hf2854 rfl)⟩
end Go.Lg
