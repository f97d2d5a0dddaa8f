/- The walks of HistbitsRows and of what it calls, printed by gen.py. -/
import Derived.Test.YtdpokdaeekanjaaRkLgHbWHistbitsRowsx2
set_option linter.unusedVariables false
namespace Go.Lg
open Go Go.Proofs
set_option maxRecDepth 100000
set_option maxHeartbeats 4000000
theorem c_ref01_Bytes {A : Nat → Prop} {a0 : List Int} {v0 : Value} {w : World} (hs0 : Sl Rep.i w A v0 a0) {r0 : List UInt8} (h : ref01_Bytes a0 = some r0) : Rets Try.prog 53 [v0] w (fun v w' => ∃ (u0 : Value), v = u0 ∧ Ext w w' ∧ RowF Rep.b 5 w w' u0 r0) := by
 unfold ref01_Bytes at h
 refine Rets.enter Try.func53 rfl rfl ?_
 have hf11 : Sl Rep.i w (imm (Lg.O0 A)) v0 a0 := (Sl.start hs0)
 refine (show WC _ _ _ _ [(0, v0)] _ from ?_)
 refine WC.seq ?_
 refine WC.region ?_
 refine WL.y (Y.assign rfl) rfl ?_
 refine WL.nil ?_
 refine At.then ?_
 refine WC.seq ?_
 refine WC.region ?_
 refine WL.y (Y.assign rfl) rfl ?_
 refine WL.nil ?_
 refine At.then ?_
 refine WC.seq ?_
 refine WC.seq ?_
 refine WC.region ?_
 refine WL.y (Y.assign rfl) rfl ?_
 refine WL.nil ?_
 refine At.then ?_
 refine WC.block ?_
 obtain ⟨p25, h, hk27⟩ := flow1 h
 obtain ⟨k26, h⟩ := loop_some h
 refine WC.joinB 0 (σ := (List UInt8 × Own × Value)) (fun x w' => p25 = .go x.1 ∧ Stp [12, 1001] (Lg.O0 A) w x.2.1 w' ∧ OwnSl 1002 Rep.b 5 x.2.1 w' x.2.2 x.1) (fun x => [(3, x.2.2)]) ?_ ?_
 ·refine WC.loop (σ := (List UInt8 × Int × Own × Value)) (fun x k w' => loopN k (ref01_Bytes_lp1 a0) (x.1, x.2.1) = some p25 ∧ Stp [12, 1001] (Lg.O0 A) w x.2.2.1 w' ∧ OwnSl 1001 Rep.b 5 x.2.2.1 w' x.2.2.2 x.1) (fun x => [(0, v0), (3, x.2.2.2), (4, vi x.2.1)]) ([], 0, (Lg.O0 A), Value.slice none 0 0) k26 (.cons rfl (.cons rfl (.cons rfl .nil))) ⟨h, (Stp.refl _ _ _), (OwnSl.nil 1001 Rep.b 5)⟩ ?_
  rintro ⟨out12, i15, O16, v13⟩ k26 wd17 ⟨h, hst18, hf14⟩
  obtain ⟨j28, q29, rfl, h, hn30⟩ := rnd1 h
  unfold ref01_Bytes_lp1 at h
  try dsimp only at h hst18 hf14
  refine (show WC _ _ _ _ [(0, v0), (3, v13), (4, vi i15)] _ from ?_)
  refine WC.seq ?_
  refine WC.seq ?_
  refine WC.region ?_
  refine WL.y (Y.move rfl) rfl ?_
  refine WL.y (Y.move rfl) rfl ?_
  have hf31 := hf11.mono (imm_st hst18 rfl rfl)
  refine WL.y (Y.len ty64 rfl hf31) rfl ?_
  refine WL.y (Y.lss_i rfl rfl) rfl ?_
  refine WL.nil ?_
  refine At.then ?_
  rcases cnd h with ⟨hc32, h⟩ | ⟨hc32, h⟩
  ·refine WC.condT' rfl hc32 ?_
   refine WC.skip ?_
   refine At.then ?_
   refine WC.seq ?_
   refine WC.block ?_
   refine WC.seq ?_
   refine WC.region ?_
   refine WL.y (Y.assign rfl) rfl ?_
   refine WL.nil ?_
   refine At.then ?_
   refine WC.seq ?_
   refine WC.seq ?_
   refine WC.region ?_
   refine WL.y (Y.assign rfl) rfl ?_
   refine WL.nil ?_
   refine At.then ?_
   obtain ⟨p34, h, hk35⟩ := bnd h
   refine WC.join (σ := Int) (fun x w' => x = p34 ∧ wd17 = w') (fun x => [(0, v0), (3, v13), (4, vi i15), (5, vi x)]) ?_ ?_
   ·refine WC.block ?_
    obtain ⟨p39, h, hk41⟩ := flow1 h
    obtain ⟨k40, h⟩ := loop_some h
    refine WC.joinB 2 (σ := Int) (fun x w' => p39 = .go x ∧ wd17 = w') (fun x => [(0, v0), (3, v13), (4, vi i15), (5, vi x)]) ?_ ?_
    ·refine WC.loop (σ := (Int × Int)) (fun x k w' => loopN k (ref01_Bytes_lp2 a0 i15) (x.1, x.2) = some p39 ∧ wd17 = w') (fun x => [(0, v0), (3, v13), (4, vi i15), (5, vi x.1), (6, vi x.2)]) (0, 0) k40 (.cons rfl (.cons rfl (.cons rfl (.cons rfl (.cons rfl .nil))))) ⟨h, rfl⟩ ?_
     rintro ⟨x36, k37⟩ k40 _ ⟨h, rfl⟩
     obtain ⟨j42, q43, rfl, h, hn44⟩ := rnd1 h
     unfold ref01_Bytes_lp2 at h
     try dsimp only at h
     refine (show WC _ _ _ _ [(0, v0), (3, v13), (4, vi i15), (5, vi x36), (6, vi k37)] _ from ?_)
     refine WC.seq ?_
     refine WC.seq ?_
     refine WC.region ?_
     refine WL.y (Y.move rfl) rfl ?_
     refine WL.y (Y.lss_i rfl rfl) rfl ?_
     refine WL.nil ?_
     refine At.then ?_
     rcases cnd h with ⟨hc45, h⟩ | ⟨hc45, h⟩
     ·refine WC.condT' rfl hc45 ?_
      refine WC.skip ?_
      refine At.then ?_
      refine WC.seq ?_
      obtain ⟨p47, h, hk48⟩ := bnd h
      refine WC.join (σ := Int) (fun x w' => x = p47 ∧ wd17 = w') (fun x => [(0, v0), (3, v13), (4, vi i15), (5, vi x), (6, vi k37)]) ?_ ?_
      ·refine WC.block ?_
       refine WC.seq ?_
       refine WC.region ?_
       refine WL.y (Y.move rfl) rfl ?_
       refine WL.y (Y.mul_i rfl rfl) rfl ?_
       obtain ⟨x49, hx49, h⟩ := lt1 h
       refine WL.yE (Y.assign rfl) (congrArg vi hx49.symm) rfl ?_
       refine WL.nil ?_
       refine At.then ?_
       refine WC.seq ?_
       refine WC.region ?_
       refine WL.y (Y.move rfl) rfl ?_
       refine WL.y (Y.move rfl) rfl ?_
       refine WL.y (Y.add_i rfl rfl) rfl ?_
       refine WL.y (Y.move rfl) rfl ?_
       refine WL.y (Y.len ty64 rfl hf31) rfl ?_
       refine WL.y (Y.lss_i rfl rfl) rfl ?_
       refine WL.nil ?_
       refine At.then ?_
       rcases cnd h with ⟨hc50, h⟩ | ⟨hc50, h⟩
       ·refine WC.condT' rfl hc50 ?_
        refine WC.region ?_
        refine WL.y (Y.move rfl) rfl ?_
        refine WL.y (Y.move rfl) rfl ?_
        refine WL.y (Y.move rfl) rfl ?_
        refine WL.y (Y.move rfl) rfl ?_
        refine WL.y (Y.add_i rfl rfl) rfl ?_
        obtain ⟨e51, he51, h⟩ := bnd h
        obtain ⟨b52, off60, cap59, cs58, hv53, hi54, hl55, hc56, hok57, hA61⟩ := Sl.at2 hf31 he51
        obtain rfl := hok57
        replace hc56 : CellsAt _ _ _ [vi e51] := hc56
        have hca62 := CAt.imm hc56 hA61
        refine WL.y (Y.indexAddr ty64 ty3 rfl hv53 rfl hi54 hl55) rfl ?_
        refine WL.y (Y.loadSc ty3 rfl rfl hca62.at_) rfl ?_
        refine WL.y (Y.add_i rfl rfl) rfl ?_
        obtain ⟨x63, hx63, h⟩ := lt1 h
        refine WL.yE (Y.assign rfl) (congrArg vi hx63.symm) rfl ?_
        refine WL.nil ?_
        refine At.inBlock ?_
        exact At.join (σ := Int) x63 ⟨some1 h, rfl⟩ (.cons rfl (.cons rfl (.cons rfl (.cons rfl (.cons rfl .nil)))))
       ·refine WC.condF' rfl hc50 ?_
        refine WC.skip ?_
        refine At.inBlock ?_
        exact At.join (σ := Int) x49 ⟨some1 h, rfl⟩ (.cons rfl (.cons rfl (.cons rfl (.cons rfl (.cons rfl .nil)))))
      ·rintro x46 _ ⟨rfl, rfl⟩
       replace h := hk48
       try dsimp only at h
       refine (show At _ _ _ [(0, v0), (3, v13), (4, vi i15), (5, vi x46), (6, vi k37)] _ from ?_)
       refine At.then ?_
       refine WC.region ?_
       refine WL.y (Y.move rfl) rfl ?_
       refine WL.y (Y.add_i rfl rfl) rfl ?_
       obtain ⟨k64, hk64, h⟩ := lt1 h
       refine WL.yE (Y.assign rfl) (congrArg vi hk64.symm) rfl ?_
       refine WL.nil ?_
       exact At.round (x46, k64) j42 (Nat.lt_succ_self _) ⟨next1 h hn44, rfl⟩ (.cons rfl (.cons rfl (.cons rfl (.cons rfl (.cons rfl .nil)))))
     ·refine WC.condF' rfl hc45 ?_
      refine WC.exit ?_
      refine At.thenX ?_
      refine At.loopX ?_
      exact At.hitB (σ := Int) x36 ⟨brk1 h hn44, rfl⟩ (.cons rfl (.cons rfl (.cons rfl (.cons rfl .nil))))
    ·rintro x38 _ ⟨rfl, rfl⟩
     replace h := flowK_go hk41
     try dsimp only at h
     refine (show At _ _ _ [(0, v0), (3, v13), (4, vi i15), (5, vi x38)] _ from ?_)
     refine At.inBlockHit ?_
     exact At.join (σ := Int) x38 ⟨some1 h, rfl⟩ (.cons rfl (.cons rfl (.cons rfl (.cons rfl .nil))))
   ·rintro x33 _ ⟨rfl, rfl⟩
    replace h := hk35
    try dsimp only at h
    refine (show At _ _ _ [(0, v0), (3, v13), (4, vi i15), (5, vi x33)] _ from ?_)
    refine At.then ?_
    refine WC.region ?_
    refine WL.y (Y.move rfl) rfl ?_
    refine WL.y (Y.move rfl) rfl ?_
    refine WL.y (Y.conv_ib ty3.u ty5.u rfl) rfl ?_
    refine WL.buildSlice (O := O16) (R := Rep.b) (vals := [(0, vb (toU8 x33))]) 11 [vb (toU8 x33)] (xs := [toU8 x33]) (by decide) ty60 ty5 (by decide) (by decide) (Fits.evalp rfl) (by kernel_rfl) rfl ⟨[vb (toU8 x33)], [], rfl, rfl, rfl⟩ rfl ?_
    intro v65 O67 wd68 hst69 ho66
    obtain ⟨xs70, hxs70, h⟩ := bnd h
    have hf71 := hf14.st hst69 rfl rfl rfl
    refine WL.append (by decide) ty60 ty5 rfl (by decide) rfl rfl hf71 ho66.src hxs70 rfl ?_
    intro v75 O72 wd73 hst74 ho76
    refine WL.y (Y.assign rfl) rfl ?_
    refine WL.nil ?_
    refine At.inBlock ?_
    refine At.then ?_
    refine WC.region ?_
    refine WL.y (Y.move rfl) rfl ?_
    refine WL.y (Y.add_i rfl rfl) rfl ?_
    obtain ⟨i77, hi77, h⟩ := lt1 h
    refine WL.yE (Y.assign rfl) (congrArg vi hi77.symm) rfl ?_
    refine WL.nil ?_
    exact At.round (xs70, i77, O72, v75) j28 (Nat.lt_succ_self _) ⟨next1 h hn30, (Stp.trans (Stp.up hst18 rfl) (Stp.trans (Stp.up hst69 rfl) (Stp.up hst74 rfl))), ho76⟩ (.cons rfl (.cons rfl (.cons rfl .nil)))
  ·refine WC.condF' rfl hc32 ?_
   refine WC.exit ?_
   refine At.thenX ?_
   refine At.loopX ?_
   obtain ⟨O78, hst79, ho80⟩ := OwnSl.rlb 1002 rfl hf14
   exact At.hitB (σ := (List UInt8 × Own × Value)) (out12, O78, v13) ⟨brk1 h hn30, (Stp.trans (Stp.up hst18 rfl) (Stp.up hst79 rfl)), ho80⟩ (.cons rfl .nil)
 ·rintro ⟨out19, O22, v20⟩ wd23 ⟨rfl, hst24, hf21⟩
  replace h := flowK_go hk27
  try dsimp only at h hst24 hf21
  refine (show At _ _ _ [(3, v20)] _ from ?_)
  refine At.inBlockHit ?_
  refine At.then ?_
  refine WC.seq ?_
  refine WC.region ?_
  refine WL.y (Y.move rfl) rfl ?_
  refine WL.y (Y.assign rfl) rfl ?_
  refine WL.nil ?_
  refine At.then ?_
  refine WC.ret ?_
  obtain rfl := some1 h
  have hs81 : Stp [12, 1001] (Lg.O0 A) w O22 wd23 := (Stp.up hst24 rfl)
  exact At.res (.inl rfl) rfl (.tmp rfl .nil) ⟨v20, rfl, (Stp.ext hs81 rfl rfl), (OwnSl.outF hf21 hs81 low0 rfl)⟩
theorem c_histbits_Row_Clone {A : Nat → Prop} {v0_4 : Value} {v0_6 : Value} {a0 : histbits_Row} {b0 : Nat} {w : World} (hs0_4 : Sl Rep.u w A v0_4 a0.last.Pos.Counts) (hs0_6 : Sl Rep.u w A v0_6 a0.last.Neg.Counts) (hb0 : w.heap[b0]? = some (.cells (List.toArray [vi a0.n, vi a0.last.Scale, vu a0.last.Zero, vi a0.last.Pos.Offset, v0_4, vi a0.last.Neg.Offset, v0_6]) 88 (0, 0))) (hm0 : A b0) {r0 : histbits_Row} (h : histbits_Row_Clone a0 = some r0) : Rets Try.prog 54 [Value.pointer (some ⟨b0, 0, none⟩)] w (fun v w' => ∃ (p0 : Nat) (u0_4 : Value) (u0_6 : Value), v = Value.pointer (some ⟨p0, 0, none⟩) ∧ Ext w w' ∧ (w'.heap[p0]? = some (.cells (List.toArray [vi r0.n, vi r0.last.Scale, vu r0.last.Zero, vi r0.last.Pos.Offset, u0_4, vi r0.last.Neg.Offset, u0_6]) 88 (0, 0)) ∧ w.heap.size ≤ p0) ∧ RowF Rep.u 22 w w' u0_4 r0.last.Pos.Counts ∧ RowF Rep.u 22 w w' u0_6 r0.last.Neg.Counts ∧ Value.ownBlock u0_4 ≠ some p0 ∧ Value.ownBlock u0_6 ≠ some p0 ∧ (∀ k, Value.ownBlock u0_4 = some k → Value.ownBlock u0_6 ≠ some k)) := by
 unfold histbits_Row_Clone at h
 refine Rets.enter Try.func54 rfl rfl ?_
 have hf11 : Sl Rep.u w (imm (Lg.O0 A)) v0_4 a0.last.Pos.Counts := (Sl.start hs0_4)
 have hf12 : Sl Rep.u w (imm (Lg.O0 A)) v0_6 a0.last.Neg.Counts := (Sl.start hs0_6)
 have hb13 : Blk 0 (Lg.O0 A) w b0 88 [vi a0.n, vi a0.last.Scale, vu a0.last.Zero, vi a0.last.Pos.Offset, v0_4, vi a0.last.Neg.Offset, v0_6] := ⟨(if_pos hm0), hb0⟩
 refine (show WC _ _ _ _ [(0, Value.pointer (some ⟨b0, 0, none⟩))] _ from ?_)
 refine WC.seq ?_
 refine WC.region ?_
 refine WL.y (Y.assign rfl) rfl ?_
 refine WL.nil ?_
 refine At.then ?_
 refine WC.seq ?_
 refine WC.drawH [] [0, 1, 2, 3, 4, 5, 6, 7, 8, 9, 10, 11] (Lg.O0 A) 12 fmix rfl (by kernel_rfl) ?_
 intro wd14 hst15
 refine WD.y 0 rfl (by kernel_rfl) (fun _ _ _ => Y.move rfl) rfl ?_
 refine WD.y 1 rfl (by kernel_rfl) (fun _ _ _ => Y.nilCheck rfl) rfl ?_
 refine WD.y 2 rfl (by kernel_rfl) (fun _ _ _ => Y.fieldAddr fo88_0 rfl) rfl ?_
 refine WD.y 3 rfl (by kernel_rfl) (fun wd26 O25 hst27 => have hf28 := hb13.st hst15 rfl; have hf29 := hf28.st hst27 rfl; Y.loadSc ty3 rfl rfl (hf29.cell 0 _ rfl)) rfl ?_
 refine WD.y 4 rfl (by kernel_rfl) (fun _ _ _ => Y.move rfl) rfl ?_
 refine WD.y 5 rfl (by kernel_rfl) (fun _ _ _ => Y.nilCheck rfl) rfl ?_
 refine WD.y 6 rfl (by kernel_rfl) (fun _ _ _ => Y.fieldAddr fo88_1 rfl) rfl ?_
 refine WD.y 7 rfl (by kernel_rfl) (fun wd40 O39 hst41 => have hf42 := hb13.st hst15 rfl; have hf43 := hf42.st hst41 rfl; Y.loadAg ty27 rfl rfl (hf43.cells 1 [vi a0.last.Scale, vu a0.last.Zero, vi a0.last.Pos.Offset, v0_4, vi a0.last.Neg.Offset, v0_6] rfl) rfl) rfl ?_
 refine WD.heavy 8 rfl (by kernel_rfl) ?_
 have hf44 := hf11.mono (imm_st hst15 rfl rfl)
 have hf45 := hf12.mono (imm_st hst15 rfl rfl)
 obtain ⟨r46, hp47, h⟩ := bnd h
 refine WL.call (vals := [Value.agg (List.toArray [vi a0.last.Scale, vu a0.last.Zero, vi a0.last.Pos.Offset, v0_4, vi a0.last.Neg.Offset, v0_6])]) kok45 rfl rfl (c_hist_Clone (A := fun _ => True) (a0 := a0.last) (Sl.all hf44) (Sl.all hf45) hp47) ?_
 rintro vr55 wd54 ⟨u48, u49, rfl, hm53, f50, f51, f52⟩
 obtain ⟨O56, hold57, hnew58, hst59⟩ := adoptE (Lg.O0 A) (fun k => if Value.ownBlock u48 = some k then 11 else if Value.ownBlock u49 = some k then 12 else 1) hm53
 have hf60 : OwnSl 11 Rep.u 22 O56 wd54 u48 r46.Pos.Counts := RowF.adopt 11 Flat.u f50 hnew58 (fun k hk => if_pos hk)
 have hf61 : OwnSl 12 Rep.u 22 O56 wd54 u49 r46.Neg.Counts := RowF.adopt 12 Flat.u f51 hnew58 (fun k hk => (if_neg (fun (e : Value.ownBlock u48 = some k) => f52 k e hk)).trans (if_pos hk))
 refine WL.nil ?_
 refine At.dq (Stp.up hst59 rfl) ?_
 have hh65 := h
 obtain ⟨p62, m63, c64, rfl⟩ := hf60.shape
 have h := hh65
 have hh69 := h
 obtain ⟨p66, m67, c68, rfl⟩ := hf61.shape
 have h := hh69
 refine WD.y 9 rfl (by kernel_rfl) (fun _ _ _ => Y.build (vals := [(0, vi a0.n), (1, Value.agg (List.toArray [vi r46.Scale, vu r46.Zero, vi r46.Pos.Offset, (Value.slice p62 m63 c64), vi r46.Neg.Offset, (Value.slice p66 m67 c68)]))]) (cells := [vi a0.n, vi r46.Scale, vu r46.Zero, vi r46.Pos.Offset, (Value.slice p62 m63 c64), vi r46.Neg.Offset, (Value.slice p66 m67 c68)]) (Fits.evalp rfl) (by kernel_rfl)) rfl ?_
 refine WD.heavy 10 rfl (by kernel_rfl) ?_
 refine WL.box (O := O56) 13 [vi a0.n, vi r46.Scale, vu r46.Zero, vi r46.Pos.Offset, (Value.slice p62 m63 c64), vi r46.Neg.Offset, (Value.slice p66 m67 c68)] rfl rfl rfl ?_
 intro p74 O75 wd76 hst77 hb73
 refine WL.nil ?_
 refine At.dq (Stp.up hst77 rfl) ?_
 refine WD.y 11 rfl (by kernel_rfl) (fun _ _ _ => Y.assign rfl) rfl ?_
 refine WD.done_ (by kernel_rfl) ?_
 refine At.then ?_
 refine WC.ret ?_
 obtain rfl := some1 h
 have hs81 : Stp [] (Lg.O0 A) w O75 wd76 := (Stp.trans (Stp.up hst15 rfl) (Stp.trans (Stp.up hst59 rfl) (Stp.up hst77 rfl)))
 have hf82 := hf60.st hst77 rfl rfl rfl
 have hf83 := hf61.st hst77 rfl rfl rfl
 exact At.res (.inl rfl) rfl (.tmp rfl .nil) ⟨p74, (Value.slice p62 m63 c64), (Value.slice p66 m67 c68), rfl, (Stp.ext hs81 rfl rfl), (Blk.outF hb73 hs81 low0 rfl), (OwnSl.outF hf82 hs81 low0 rfl), (OwnSl.outF hf83 hs81 low0 rfl), (ne_lab hf82 hb73.lab rfl), (ne_lab hf83 hb73.lab rfl), (ne_own hf82 hf83 rfl)⟩
theorem c_ref10_all {A : Nat → Prop} {v0_3 : Value} {v0_5 : Value} {a0 : api_Hist} {w : World} (hs0_3 : Sl Rep.u w A v0_3 a0.Pos.Counts) (hs0_5 : Sl Rep.u w A v0_5 a0.Neg.Counts) {r0 : List UInt64} (h : ref10_all a0 = some r0) : Rets Try.prog 77 [Value.agg (List.toArray [vi a0.Scale, vu a0.Zero, vi a0.Pos.Offset, v0_3, vi a0.Neg.Offset, v0_5])] w (fun v w' => ∃ (u0 : Value), v = u0 ∧ Ext w w' ∧ RowF Rep.u 22 w w' u0 r0) := by
 unfold ref10_all at h
 refine Rets.enter Try.func77 rfl rfl ?_
 have hf11 : Sl Rep.u w (imm (Lg.O0 A)) v0_3 a0.Pos.Counts := (Sl.start hs0_3)
 have hf12 : Sl Rep.u w (imm (Lg.O0 A)) v0_5 a0.Neg.Counts := (Sl.start hs0_5)
 refine (show WC _ _ _ _ [(0, Value.agg (List.toArray [vi a0.Scale, vu a0.Zero, vi a0.Pos.Offset, v0_3, vi a0.Neg.Offset, v0_5]))] _ from ?_)
 refine WC.seq ?_
 refine WC.region ?_
 have hh16 := h
 obtain ⟨p13, m14, c15, rfl⟩ := hf11.shape
 have h := hh16
 have hh20 := h
 obtain ⟨p17, m18, c19, rfl⟩ := hf12.shape
 have h := hh20
 refine WL.box (O := (Lg.O0 A)) 11 [vi a0.Scale, vu a0.Zero, vi a0.Pos.Offset, (Value.slice p13 m14 c15), vi a0.Neg.Offset, (Value.slice p17 m18 c19)] rfl rfl rfl ?_
 intro p22 O23 wd24 hst25 hb21
 refine WL.y (Y.assign rfl) rfl ?_
 refine WL.nil ?_
 refine At.then ?_
 refine WC.seq ?_
 refine WC.region ?_
 refine WL.y (Y.fieldAddr fo27_1 rfl) rfl ?_
 refine WL.y (Y.loadSc ty22 rfl rfl (hb21.cell 1 _ rfl)) rfl ?_
 refine WL.buildSlice (O := O23) (R := Rep.u) (vals := [(0, vu a0.Zero)]) 12 [vu a0.Zero] (xs := [a0.Zero]) (by decide) ty23 ty22 (by decide) (by decide) (Fits.evalp rfl) (by kernel_rfl) rfl ⟨[vu a0.Zero], [], rfl, rfl, rfl⟩ rfl ?_
 intro v26 O28 wd29 hst30 ho27
 refine WL.y (Y.assign rfl) rfl ?_
 refine WL.nil ?_
 refine At.then ?_
 refine WC.seq ?_
 refine WC.region ?_
 refine WL.y (Y.move rfl) rfl ?_
 refine WL.y (Y.fieldAddr fo27_2 rfl) rfl ?_
 refine WL.y (Y.fieldAddr fo25_1 rfl) rfl ?_
 have hf31 := hb21.st hst30 rfl
 refine WL.y (Y.loadSc ty23 rfl rfl (hf31.cell 3 _ rfl)) rfl ?_
 obtain ⟨xs32, hxs32, h⟩ := bnd h
 have hf33 := hf11.mono (imm_st hst25 rfl rfl)
 have hf34 := hf33.mono (imm_st hst30 rfl rfl)
 refine WL.append (by decide) ty23 ty22 rfl (by decide) rfl rfl ho27 (Sl.src hf34) hxs32 rfl ?_
 intro v38 O35 wd36 hst37 ho39
 refine WL.y (Y.assign rfl) rfl ?_
 refine WL.nil ?_
 refine At.then ?_
 refine WC.seq ?_
 refine WC.region ?_
 refine WL.y (Y.move rfl) rfl ?_
 refine WL.y (Y.fieldAddr fo27_3 rfl) rfl ?_
 refine WL.y (Y.fieldAddr fo25_1 rfl) rfl ?_
 have hf40 := hf31.st hst37 rfl
 refine WL.y (Y.loadSc ty23 rfl rfl (hf40.cell 5 _ rfl)) rfl ?_
 obtain ⟨xs41, hxs41, h⟩ := bnd h
 have hf42 := hf12.mono (imm_st hst25 rfl rfl)
 have hf43 := hf42.mono (imm_st hst30 rfl rfl)
 have hf44 := hf43.mono (imm_st hst37 rfl rfl)
 refine WL.append (by decide) ty23 ty22 rfl (by decide) rfl rfl ho39 (Sl.src hf44) hxs41 rfl ?_
 intro v48 O45 wd46 hst47 ho49
 refine WL.y (Y.assign rfl) rfl ?_
 refine WL.nil ?_
 refine At.then ?_
 refine WC.ret ?_
 obtain rfl := some1 h
 have hs50 : Stp [12] (Lg.O0 A) w O45 wd46 := (Stp.trans (Stp.up hst25 rfl) (Stp.trans (Stp.up hst30 rfl) (Stp.trans (Stp.up hst37 rfl) (Stp.up hst47 rfl))))
 exact At.res (.inl rfl) rfl (.tmp rfl .nil) ⟨v48, rfl, (Stp.ext hs50 rfl rfl), (OwnSl.outF ho49 hs50 low0 rfl)⟩
theorem c_ref10_Alike {A : Nat → Prop} {v0_3 : Value} {v0_5 : Value} {a0 : api_Hist} {v1_3 : Value} {v1_5 : Value} {a1 : api_Hist} {w : World} (hs0_3 : Sl Rep.u w A v0_3 a0.Pos.Counts) (hs0_5 : Sl Rep.u w A v0_5 a0.Neg.Counts) (hs1_3 : Sl Rep.u w A v1_3 a1.Pos.Counts) (hs1_5 : Sl Rep.u w A v1_5 a1.Neg.Counts) {r0 : Bool} (h : ref10_Alike a0 a1 = some r0) : Rets Try.prog 81 [Value.agg (List.toArray [vi a0.Scale, vu a0.Zero, vi a0.Pos.Offset, v0_3, vi a0.Neg.Offset, v0_5]), Value.agg (List.toArray [vi a1.Scale, vu a1.Zero, vi a1.Pos.Offset, v1_3, vi a1.Neg.Offset, v1_5])] w (fun v w' => v = Value.bool r0 ∧ Ext w w') := by
 unfold ref10_Alike at h
 refine Rets.enter Try.func81 rfl rfl ?_
 have hf11 : Sl Rep.u w (imm (Lg.O0 A)) v0_3 a0.Pos.Counts := (Sl.start hs0_3)
 have hf12 : Sl Rep.u w (imm (Lg.O0 A)) v0_5 a0.Neg.Counts := (Sl.start hs0_5)
 have hf13 : Sl Rep.u w (imm (Lg.O0 A)) v1_3 a1.Pos.Counts := (Sl.start hs1_3)
 have hf14 : Sl Rep.u w (imm (Lg.O0 A)) v1_5 a1.Neg.Counts := (Sl.start hs1_5)
 refine (show WC _ _ _ _ [(0, Value.agg (List.toArray [vi a0.Scale, vu a0.Zero, vi a0.Pos.Offset, v0_3, vi a0.Neg.Offset, v0_5])), (1, Value.agg (List.toArray [vi a1.Scale, vu a1.Zero, vi a1.Pos.Offset, v1_3, vi a1.Neg.Offset, v1_5]))] _ from ?_)
 refine WC.seq ?_
 refine WC.region ?_
 have hh18 := h
 obtain ⟨p15, m16, c17, rfl⟩ := hf11.shape
 have h := hh18
 have hh22 := h
 obtain ⟨p19, m20, c21, rfl⟩ := hf12.shape
 have h := hh22
 refine WL.box (O := (Lg.O0 A)) 11 [vi a0.Scale, vu a0.Zero, vi a0.Pos.Offset, (Value.slice p15 m16 c17), vi a0.Neg.Offset, (Value.slice p19 m20 c21)] rfl rfl rfl ?_
 intro p24 O25 wd26 hst27 hb23
 have hf28 := hf13.mono (imm_st hst27 rfl rfl)
 have hh32 := h
 obtain ⟨p29, m30, c31, rfl⟩ := hf28.shape
 have h := hh32
 have hf33 := hf14.mono (imm_st hst27 rfl rfl)
 have hh37 := h
 obtain ⟨p34, m35, c36, rfl⟩ := hf33.shape
 have h := hh37
 refine WL.box (O := O25) 12 [vi a1.Scale, vu a1.Zero, vi a1.Pos.Offset, (Value.slice p29 m30 c31), vi a1.Neg.Offset, (Value.slice p34 m35 c36)] rfl rfl rfl ?_
 intro p39 O40 wd41 hst42 hb38
 refine WL.y (Y.assign rfl) rfl ?_
 refine WL.nil ?_
 refine At.then ?_
 refine WC.seq ?_
 refine WC.region ?_
 refine WL.y (Y.fieldAddr fo27_0 rfl) rfl ?_
 have hf43 := hb23.st hst42 rfl
 refine WL.y (Y.loadSc ty3 rfl rfl (hf43.cell 0 _ rfl)) rfl ?_
 refine WL.y (Y.fieldAddr fo27_0 rfl) rfl ?_
 refine WL.y (Y.loadSc ty3 rfl rfl (hb38.cell 0 _ rfl)) rfl ?_
 refine WL.y (Y.eql_i rfl rfl) rfl ?_
 refine WL.y (Y.move rfl) rfl ?_
 refine WL.cut 8 (σ := Unit) (fun _ w' => wd41 = w') (fun _ => [(2, Value.pointer (some ⟨p24, 0, none⟩)), (3, Value.pointer (some ⟨p39, 0, none⟩)), (18, Value.bool ((decide (a0.Scale = a1.Scale)) && (decide (a0.Pos.Offset = a1.Pos.Offset))))]) ?_ ?_
 ·refine WL.part 10 rfl (fun hE44 => ?_) (fun hE44 => ?_)
  ·refine WL.ung rfl rfl ?_
   refine WL.y (Y.fieldAddr fo27_2 rfl) rfl ?_
   refine WL.ung rfl rfl ?_
   refine WL.y (Y.fieldAddr fo25_0 rfl) rfl ?_
   refine WL.ung rfl rfl ?_
   refine WL.y (Y.loadSc ty3 rfl rfl (hf43.cell 2 _ rfl)) rfl ?_
   refine WL.ung rfl rfl ?_
   refine WL.y (Y.fieldAddr fo27_2 rfl) rfl ?_
   refine WL.ung rfl rfl ?_
   refine WL.y (Y.fieldAddr fo25_0 rfl) rfl ?_
   refine WL.ung rfl rfl ?_
   refine WL.y (Y.loadSc ty3 rfl rfl (hb38.cell 2 _ rfl)) rfl ?_
   refine WL.ung rfl rfl ?_
   refine WL.y (Y.eql_i rfl rfl) rfl ?_
   refine WL.y (Y.pick (b := true) rfl rfl) rfl ?_
   refine WL.ren (v' := Value.bool ((decide (a0.Scale = a1.Scale)) && (decide (a0.Pos.Offset = a1.Pos.Offset)))) 18 rfl (congrArg Value.bool (andT hE44)) ?_
   exact WL.nil (At.join () rfl (.cons rfl (.cons rfl (.cons rfl .nil))))
  ·refine WL.gS rfl rfl rfl rfl ?_
   refine WL.gS rfl rfl rfl rfl ?_
   refine WL.gS rfl rfl rfl rfl ?_
   refine WL.gS rfl rfl rfl rfl ?_
   refine WL.gS rfl rfl rfl rfl ?_
   refine WL.gS rfl rfl rfl rfl ?_
   refine WL.gS rfl rfl rfl rfl ?_
   refine WL.y (Y.pick (b := false) rfl rfl) rfl ?_
   refine WL.ren (v' := Value.bool ((decide (a0.Scale = a1.Scale)) && (decide (a0.Pos.Offset = a1.Pos.Offset)))) 18 rfl (congrArg Value.bool (andF hE44)) ?_
   exact WL.nil (At.join () rfl (.cons rfl (.cons rfl (.cons rfl .nil))))
 ·rintro _ _ rfl
  refine (show WL _ _ _ _ _ [(2, Value.pointer (some ⟨p24, 0, none⟩)), (3, Value.pointer (some ⟨p39, 0, none⟩)), (18, Value.bool ((decide (a0.Scale = a1.Scale)) && (decide (a0.Pos.Offset = a1.Pos.Offset))))] _ from ?_)
  refine WL.y (Y.move rfl) rfl ?_
  refine WL.cut 8 (σ := Unit) (fun _ w' => wd41 = w') (fun _ => [(2, Value.pointer (some ⟨p24, 0, none⟩)), (3, Value.pointer (some ⟨p39, 0, none⟩)), (27, Value.bool (((decide (a0.Scale = a1.Scale)) && (decide (a0.Pos.Offset = a1.Pos.Offset))) && (decide (a0.Neg.Offset = a1.Neg.Offset))))]) ?_ ?_
  ·refine WL.part 19 rfl (fun hE45 => ?_) (fun hE45 => ?_)
   ·refine WL.ung rfl rfl ?_
    refine WL.y (Y.fieldAddr fo27_3 rfl) rfl ?_
    refine WL.ung rfl rfl ?_
    refine WL.y (Y.fieldAddr fo25_0 rfl) rfl ?_
    refine WL.ung rfl rfl ?_
    refine WL.y (Y.loadSc ty3 rfl rfl (hf43.cell 4 _ rfl)) rfl ?_
    refine WL.ung rfl rfl ?_
    refine WL.y (Y.fieldAddr fo27_3 rfl) rfl ?_
    refine WL.ung rfl rfl ?_
    refine WL.y (Y.fieldAddr fo25_0 rfl) rfl ?_
    refine WL.ung rfl rfl ?_
    refine WL.y (Y.loadSc ty3 rfl rfl (hb38.cell 4 _ rfl)) rfl ?_
    refine WL.ung rfl rfl ?_
    refine WL.y (Y.eql_i rfl rfl) rfl ?_
    refine WL.y (Y.pick (b := true) rfl rfl) rfl ?_
    refine WL.ren (v' := Value.bool (((decide (a0.Scale = a1.Scale)) && (decide (a0.Pos.Offset = a1.Pos.Offset))) && (decide (a0.Neg.Offset = a1.Neg.Offset)))) 27 rfl (congrArg Value.bool (andT hE45)) ?_
    exact WL.nil (At.join () rfl (.cons rfl (.cons rfl (.cons rfl .nil))))
   ·refine WL.gS rfl rfl rfl rfl ?_
    refine WL.gS rfl rfl rfl rfl ?_
    refine WL.gS rfl rfl rfl rfl ?_
    refine WL.gS rfl rfl rfl rfl ?_
    refine WL.gS rfl rfl rfl rfl ?_
    refine WL.gS rfl rfl rfl rfl ?_
    refine WL.gS rfl rfl rfl rfl ?_
    refine WL.y (Y.pick (b := false) rfl rfl) rfl ?_
    refine WL.ren (v' := Value.bool (((decide (a0.Scale = a1.Scale)) && (decide (a0.Pos.Offset = a1.Pos.Offset))) && (decide (a0.Neg.Offset = a1.Neg.Offset)))) 27 rfl (congrArg Value.bool (andF hE45)) ?_
    exact WL.nil (At.join () rfl (.cons rfl (.cons rfl (.cons rfl .nil))))
  ·rintro _ _ rfl
   refine (show WL _ _ _ _ _ [(2, Value.pointer (some ⟨p24, 0, none⟩)), (3, Value.pointer (some ⟨p39, 0, none⟩)), (27, Value.bool (((decide (a0.Scale = a1.Scale)) && (decide (a0.Pos.Offset = a1.Pos.Offset))) && (decide (a0.Neg.Offset = a1.Neg.Offset))))] _ from ?_)
   refine WL.y (Y.move rfl) rfl ?_
   refine WL.cut 10 (σ := Unit) (fun _ w' => wd41 = w') (fun _ => [(2, Value.pointer (some ⟨p24, 0, none⟩)), (3, Value.pointer (some ⟨p39, 0, none⟩)), (38, Value.bool ((((decide (a0.Scale = a1.Scale)) && (decide (a0.Pos.Offset = a1.Pos.Offset))) && (decide (a0.Neg.Offset = a1.Neg.Offset))) && (decide ((a0.Pos.Counts.length : Int) = (a1.Pos.Counts.length : Int)))))]) ?_ ?_
   ·refine WL.part 28 rfl (fun hE46 => ?_) (fun hE46 => ?_)
    ·refine WL.ung rfl rfl ?_
     refine WL.y (Y.fieldAddr fo27_2 rfl) rfl ?_
     refine WL.ung rfl rfl ?_
     refine WL.y (Y.fieldAddr fo25_1 rfl) rfl ?_
     refine WL.ung rfl rfl ?_
     refine WL.y (Y.loadSc ty23 rfl rfl (hf43.cell 3 _ rfl)) rfl ?_
     refine WL.ung rfl rfl ?_
     have hf47 := hf11.mono (imm_st hst27 rfl rfl)
     have hf48 := hf47.mono (imm_st hst42 rfl rfl)
     refine WL.y (Y.len ty23 rfl hf48) rfl ?_
     refine WL.ung rfl rfl ?_
     refine WL.y (Y.fieldAddr fo27_2 rfl) rfl ?_
     refine WL.ung rfl rfl ?_
     refine WL.y (Y.fieldAddr fo25_1 rfl) rfl ?_
     refine WL.ung rfl rfl ?_
     refine WL.y (Y.loadSc ty23 rfl rfl (hb38.cell 3 _ rfl)) rfl ?_
     refine WL.ung rfl rfl ?_
     have hf49 := hf28.mono (imm_st hst42 rfl rfl)
     refine WL.y (Y.len ty23 rfl hf49) rfl ?_
     refine WL.ung rfl rfl ?_
     refine WL.y (Y.eql_i rfl rfl) rfl ?_
     refine WL.y (Y.pick (b := true) rfl rfl) rfl ?_
     refine WL.ren (v' := Value.bool ((((decide (a0.Scale = a1.Scale)) && (decide (a0.Pos.Offset = a1.Pos.Offset))) && (decide (a0.Neg.Offset = a1.Neg.Offset))) && (decide ((a0.Pos.Counts.length : Int) = (a1.Pos.Counts.length : Int))))) 38 rfl (congrArg Value.bool (andT hE46)) ?_
     exact WL.nil (At.join () rfl (.cons rfl (.cons rfl (.cons rfl .nil))))
    ·refine WL.gS rfl rfl rfl rfl ?_
     refine WL.gS rfl rfl rfl rfl ?_
     refine WL.gS rfl rfl rfl rfl ?_
     refine WL.gS rfl rfl rfl rfl ?_
     refine WL.gS rfl rfl rfl rfl ?_
     refine WL.gS rfl rfl rfl rfl ?_
     refine WL.gS rfl rfl rfl rfl ?_
     refine WL.gS rfl rfl rfl rfl ?_
     refine WL.gS rfl rfl rfl rfl ?_
     refine WL.y (Y.pick (b := false) rfl rfl) rfl ?_
     refine WL.ren (v' := Value.bool ((((decide (a0.Scale = a1.Scale)) && (decide (a0.Pos.Offset = a1.Pos.Offset))) && (decide (a0.Neg.Offset = a1.Neg.Offset))) && (decide ((a0.Pos.Counts.length : Int) = (a1.Pos.Counts.length : Int))))) 38 rfl (congrArg Value.bool (andF hE46)) ?_
     exact WL.nil (At.join () rfl (.cons rfl (.cons rfl (.cons rfl .nil))))
   ·rintro _ _ rfl
    refine (show WL _ _ _ _ _ [(2, Value.pointer (some ⟨p24, 0, none⟩)), (3, Value.pointer (some ⟨p39, 0, none⟩)), (38, Value.bool ((((decide (a0.Scale = a1.Scale)) && (decide (a0.Pos.Offset = a1.Pos.Offset))) && (decide (a0.Neg.Offset = a1.Neg.Offset))) && (decide ((a0.Pos.Counts.length : Int) = (a1.Pos.Counts.length : Int)))))] _ from ?_)
    refine WL.y (Y.move rfl) rfl ?_
    refine WL.cut 10 (σ := Unit) (fun _ w' => wd41 = w') (fun _ => [(49, Value.bool (((((decide (a0.Scale = a1.Scale)) && (decide (a0.Pos.Offset = a1.Pos.Offset))) && (decide (a0.Neg.Offset = a1.Neg.Offset))) && (decide ((a0.Pos.Counts.length : Int) = (a1.Pos.Counts.length : Int)))) && (decide ((a0.Neg.Counts.length : Int) = (a1.Neg.Counts.length : Int)))))]) ?_ ?_
    ·refine WL.part 39 rfl (fun hE50 => ?_) (fun hE50 => ?_)
     ·refine WL.ung rfl rfl ?_
      refine WL.y (Y.fieldAddr fo27_3 rfl) rfl ?_
      refine WL.ung rfl rfl ?_
      refine WL.y (Y.fieldAddr fo25_1 rfl) rfl ?_
      refine WL.ung rfl rfl ?_
      refine WL.y (Y.loadSc ty23 rfl rfl (hf43.cell 5 _ rfl)) rfl ?_
      refine WL.ung rfl rfl ?_
      have hf51 := hf12.mono (imm_st hst27 rfl rfl)
      have hf52 := hf51.mono (imm_st hst42 rfl rfl)
      refine WL.y (Y.len ty23 rfl hf52) rfl ?_
      refine WL.ung rfl rfl ?_
      refine WL.y (Y.fieldAddr fo27_3 rfl) rfl ?_
      refine WL.ung rfl rfl ?_
      refine WL.y (Y.fieldAddr fo25_1 rfl) rfl ?_
      refine WL.ung rfl rfl ?_
      refine WL.y (Y.loadSc ty23 rfl rfl (hb38.cell 5 _ rfl)) rfl ?_
      refine WL.ung rfl rfl ?_
      have hf53 := hf33.mono (imm_st hst42 rfl rfl)
      refine WL.y (Y.len ty23 rfl hf53) rfl ?_
      refine WL.ung rfl rfl ?_
      refine WL.y (Y.eql_i rfl rfl) rfl ?_
      refine WL.y (Y.pick (b := true) rfl rfl) rfl ?_
      refine WL.ren (v' := Value.bool (((((decide (a0.Scale = a1.Scale)) && (decide (a0.Pos.Offset = a1.Pos.Offset))) && (decide (a0.Neg.Offset = a1.Neg.Offset))) && (decide ((a0.Pos.Counts.length : Int) = (a1.Pos.Counts.length : Int)))) && (decide ((a0.Neg.Counts.length : Int) = (a1.Neg.Counts.length : Int))))) 49 rfl (congrArg Value.bool (andT hE50)) ?_
      exact WL.nil (At.join () rfl (.cons rfl .nil))
     ·refine WL.gS rfl rfl rfl rfl ?_
      refine WL.gS rfl rfl rfl rfl ?_
      refine WL.gS rfl rfl rfl rfl ?_
      refine WL.gS rfl rfl rfl rfl ?_
      refine WL.gS rfl rfl rfl rfl ?_
      refine WL.gS rfl rfl rfl rfl ?_
      refine WL.gS rfl rfl rfl rfl ?_
      refine WL.gS rfl rfl rfl rfl ?_
      refine WL.gS rfl rfl rfl rfl ?_
      refine WL.y (Y.pick (b := false) rfl rfl) rfl ?_
      refine WL.ren (v' := Value.bool (((((decide (a0.Scale = a1.Scale)) && (decide (a0.Pos.Offset = a1.Pos.Offset))) && (decide (a0.Neg.Offset = a1.Neg.Offset))) && (decide ((a0.Pos.Counts.length : Int) = (a1.Pos.Counts.length : Int)))) && (decide ((a0.Neg.Counts.length : Int) = (a1.Neg.Counts.length : Int))))) 49 rfl (congrArg Value.bool (andF hE50)) ?_
      exact WL.nil (At.join () rfl (.cons rfl .nil))
    ·rintro _ _ rfl
     refine (show WL _ _ _ _ _ [(49, Value.bool (((((decide (a0.Scale = a1.Scale)) && (decide (a0.Pos.Offset = a1.Pos.Offset))) && (decide (a0.Neg.Offset = a1.Neg.Offset))) && (decide ((a0.Pos.Counts.length : Int) = (a1.Pos.Counts.length : Int)))) && (decide ((a0.Neg.Counts.length : Int) = (a1.Neg.Counts.length : Int)))))] _ from ?_)
     obtain ⟨t54, ht54, h⟩ := lt1 h
     refine WL.yE (Y.assign rfl) (congrArg Value.bool ht54.symm) rfl ?_
     refine WL.nil ?_
     refine At.then ?_
     refine WC.ret ?_
     obtain rfl := some1 h
     have hs55 : Stp [] (Lg.O0 A) w O40 wd41 := (Stp.trans (Stp.up hst27 rfl) (Stp.up hst42 rfl))
     exact At.res (.inl rfl) rfl (.tmp rfl .nil) ⟨rfl, (Stp.ext hs55 rfl rfl)⟩
theorem c_ref06_size {a0 : Int} {w : World} {r0 : Int} (h : ref06_size a0 = some r0) : Rets Try.prog 109 [vi a0] w (fun v w' => v = vi r0 ∧ Ext w w') := by
 unfold ref06_size at h
 refine Rets.enter Try.func109 rfl rfl ?_
 refine (show WC _ _ _ _ [(0, vi a0)] _ from ?_)
 refine WC.seq ?_
 refine WC.region ?_
 refine WL.y (Y.assign rfl) rfl ?_
 refine WL.nil ?_
 refine At.then ?_
 refine WC.seq ?_
 refine WC.region ?_
 refine WL.buildSlice (O := (Lg.O0 (fun _ => False))) (R := Rep.i) (vals := [(0, vi 0), (1, vi 7), (2, vi 20), (3, vi 64)]) 11 [vi 0, vi 7, vi 20, vi 64] (xs := [0, 7, 20, 64]) (by decide) ty64 ty3 (by decide) (by decide) (Fits.evalp rfl) (by kernel_rfl) rfl ⟨[vi 0], [vi 7, vi 20, vi 64], rfl, rfl, ⟨[vi 7], [vi 20, vi 64], rfl, rfl, ⟨[vi 20], [vi 64], rfl, rfl, ⟨[vi 64], [], rfl, rfl, rfl⟩⟩⟩⟩ rfl ?_
 intro v11 O13 wd14 hst15 ho12
 refine WL.y (Y.assign rfl) rfl ?_
 refine WL.nil ?_
 refine At.then ?_
 refine WC.seq ?_
 refine WC.region ?_
 refine WL.y (Y.move rfl) rfl ?_
 refine WL.y (Y.move rfl) rfl ?_
 obtain ⟨e16, he16, h⟩ := bnd h
 obtain ⟨b17, cap24, cs23, hv18, hi19, hl20, hc21, hok22⟩ := OwnSl.at ho12 he16
 obtain rfl := hok22
 replace hc21 : CellsAt _ _ _ [vi e16] := hc21
 have hca25 := CAt.own ho12 hv18 hc21
 refine WL.y (Y.indexAddr ty64 ty3 rfl hv18 rfl hi19 hl20) rfl ?_
 refine WL.y (Y.loadSc ty3 rfl rfl hca25.at_) rfl ?_
 refine WL.y (Y.assign rfl) rfl ?_
 refine WL.nil ?_
 refine At.then ?_
 refine WC.ret ?_
 obtain rfl := some1 h
 have hs26 : Stp [] (Lg.O0 (fun _ => False)) w O13 wd14 := (Stp.up hst15 rfl)
 exact At.res (.inl rfl) rfl (.tmp rfl .nil) ⟨rfl, (Stp.ext hs26 rfl rfl)⟩
theorem c_ref06_power {a0 : Int} {w : World} {r0 : UInt64} (h : ref06_power a0 = some r0) : Rets Try.prog 113 [vi a0] w (fun v w' => v = vu r0 ∧ Ext w w') := by
 unfold ref06_power at h
 refine Rets.enter Try.func113 rfl rfl ?_
 refine (show WC _ _ _ _ [(0, vi a0)] _ from ?_)
 refine WC.seq ?_
 refine WC.region ?_
 refine WL.y (Y.assign (v := vu 0) rfl) rfl ?_
 refine WL.nil ?_
 refine At.then ?_
 refine WC.seq ?_
 refine WC.region ?_
 refine WL.y (Y.assign (v := vu 1) rfl) rfl ?_
 refine WL.nil ?_
 refine At.then ?_
 refine WC.seq ?_
 refine WC.seq ?_
 refine WC.region ?_
 refine WL.y (Y.assign rfl) rfl ?_
 refine WL.nil ?_
 refine At.then ?_
 refine WC.block ?_
 obtain ⟨p14, h, hk16⟩ := flow1 h
 obtain ⟨k15, h⟩ := loop_some h
 refine WC.joinB 0 (σ := UInt64) (fun x w' => p14 = .go x ∧ w = w') (fun x => [(3, vu x)]) ?_ ?_
 ·refine WC.loop (σ := (UInt64 × Int)) (fun x k w' => loopN k (ref06_power_lp1 a0) (x.1, x.2) = some p14 ∧ w = w') (fun x => [(0, vi a0), (3, vu x.1), (4, vi x.2)]) (1, 0) k15 (.cons rfl (.cons rfl (.cons rfl .nil))) ⟨h, rfl⟩ ?_
  rintro ⟨p11, i12⟩ k15 _ ⟨h, rfl⟩
  obtain ⟨j17, q18, rfl, h, hn19⟩ := rnd1 h
  unfold ref06_power_lp1 at h
  try dsimp only at h
  refine (show WC _ _ _ _ [(0, vi a0), (3, vu p11), (4, vi i12)] _ from ?_)
  refine WC.seq ?_
  refine WC.seq ?_
  refine WC.region ?_
  refine WL.y (Y.move rfl) rfl ?_
  refine WL.y (Y.move rfl) rfl ?_
  refine WL.y (Y.lss_i rfl rfl) rfl ?_
  refine WL.nil ?_
  refine At.then ?_
  rcases cnd h with ⟨hc20, h⟩ | ⟨hc20, h⟩
  ·refine WC.condT' rfl hc20 ?_
   refine WC.skip ?_
   refine At.then ?_
   refine WC.seq ?_
   refine WC.block ?_
   refine WC.region ?_
   refine WL.y (Y.move rfl) rfl ?_
   refine WL.y (Y.mul_u (a := 2) rfl rfl) rfl ?_
   obtain ⟨p21, hp21, h⟩ := lt1 h
   refine WL.yE (Y.assign rfl) (congrArg vu hp21.symm) rfl ?_
   refine WL.nil ?_
   refine At.inBlock ?_
   refine At.then ?_
   refine WC.region ?_
   refine WL.y (Y.move rfl) rfl ?_
   refine WL.y (Y.add_i rfl rfl) rfl ?_
   obtain ⟨i22, hi22, h⟩ := lt1 h
   refine WL.yE (Y.assign rfl) (congrArg vi hi22.symm) rfl ?_
   refine WL.nil ?_
   exact At.round (p21, i22) j17 (Nat.lt_succ_self _) ⟨next1 h hn19, rfl⟩ (.cons rfl (.cons rfl (.cons rfl .nil)))
  ·refine WC.condF' rfl hc20 ?_
   refine WC.exit ?_
   refine At.thenX ?_
   refine At.loopX ?_
   exact At.hitB (σ := UInt64) p11 ⟨brk1 h hn19, rfl⟩ (.cons rfl .nil)
 ·rintro p13 _ ⟨rfl, rfl⟩
  replace h := flowK_go hk16
  try dsimp only at h
  refine (show At _ _ _ [(3, vu p13)] _ from ?_)
  refine At.inBlockHit ?_
  refine At.then ?_
  refine WC.seq ?_
  refine WC.region ?_
  refine WL.y (Y.move rfl) rfl ?_
  refine WL.y (Y.assign rfl) rfl ?_
  refine WL.nil ?_
  refine At.then ?_
  refine WC.ret ?_
  obtain rfl := some1 h
  have hs23 : Stp [] (Lg.O0 (fun _ => False)) w (Lg.O0 (fun _ => False)) w := (Stp.refl _ _ _)
  exact At.res (.inl rfl) rfl (.tmp rfl .nil) ⟨rfl, (Stp.ext hs23 rfl rfl)⟩
theorem c_ref06_Class {a0 : UInt64} {w : World} {r0 : Int} (h : ref06_Class a0 = some r0) : Rets Try.prog 107 [vu a0] w (fun v w' => v = vi r0 ∧ Ext w w') := by
 unfold ref06_Class at h
 refine Rets.enter Try.func107 rfl rfl ?_
 refine (show WC _ _ _ _ [(0, vu a0)] _ from ?_)
 refine WC.seq ?_
 refine WC.region ?_
 refine WL.y (Y.assign rfl) rfl ?_
 refine WL.nil ?_
 refine At.then ?_
 refine WC.seq ?_
 refine WC.seq ?_
 refine WC.region ?_
 refine WL.y (Y.assign rfl) rfl ?_
 refine WL.nil ?_
 refine At.then ?_
 refine WC.block ?_
 obtain ⟨p18, h, hk20⟩ := flow1 h
 obtain ⟨k19, h⟩ := loop_some h
 refine WC.joinB 0 (σ := Own) (fun x w' => p18 = .go () ∧ Stp [] (Lg.O0 (fun _ => False)) w x w') (fun x => []) ?_ ?_
 ·refine WC.loop (σ := (Int × Own)) (fun x k w' => loopN k (ref06_Class_lp1 a0) x.1 = some p18 ∧ Stp [] (Lg.O0 (fun _ => False)) w x.2 w') (fun x => [(0, vu a0), (3, vi x.1)]) (0, (Lg.O0 (fun _ => False))) k19 (.cons rfl (.cons rfl .nil)) ⟨h, (Stp.refl _ _ _)⟩ ?_
  rintro ⟨c11, O12⟩ k19 wd13 ⟨h, hst14⟩
  obtain ⟨j21, q22, rfl, h, hn23⟩ := rnd1 h
  unfold ref06_Class_lp1 at h
  try dsimp only at h hst14
  refine (show WC _ _ _ _ [(0, vu a0), (3, vi c11)] _ from ?_)
  refine WC.seq ?_
  refine WC.seq ?_
  refine WC.region ?_
  refine WL.y (Y.move rfl) rfl ?_
  refine WL.y (Y.lss_i rfl rfl) rfl ?_
  refine WL.nil ?_
  refine At.then ?_
  rcases cnd h with ⟨hc24, h⟩ | ⟨hc24, h⟩
  ·refine WC.condT' rfl hc24 ?_
   refine WC.skip ?_
   refine At.then ?_
   refine WC.seq ?_
   refine WC.block ?_
   refine WC.seq ?_
   refine WC.region ?_
   refine WL.y (Y.move rfl) rfl ?_
   refine WL.y (Y.move rfl) rfl ?_
   obtain ⟨r25, hp26, h⟩ := bnd h
   refine WL.call (vals := [vi c11]) kok109 rfl rfl (c_ref06_size hp26) ?_
   rintro vr29 wd28 ⟨rfl, hm27⟩
   obtain ⟨O30, hold31, hnew32, hst33⟩ := adoptE O12 (fun k => 1) hm27
   obtain ⟨r34, hp35, h⟩ := bnd h
   refine WL.call (vals := [vi r25]) kok113 rfl rfl (c_ref06_power hp35) ?_
   rintro vr38 wd37 ⟨rfl, hm36⟩
   obtain ⟨O39, hold40, hnew41, hst42⟩ := adoptE O30 (fun k => 1) hm36
   refine WL.y (Y.lss_u rfl rfl) rfl ?_
   refine WL.nil ?_
   refine At.then ?_
   rcases cnd h with ⟨hc43, h⟩ | ⟨hc43, h⟩
   ·refine WC.condT' rfl hc43 ?_
    refine WC.seq ?_
    refine WC.region ?_
    refine WL.y (Y.move rfl) rfl ?_
    refine WL.y (Y.assign rfl) rfl ?_
    refine WL.nil ?_
    refine At.then ?_
    refine WC.ret ?_
    refine At.inBlockR ?_
    refine At.thenR ?_
    refine At.loopR ?_
    have h := outr1 h hn23 hk20
    refine At.joinBR ?_
    refine At.inBlockR ?_
    refine At.thenR ?_
    obtain rfl := some1 h
    have hs44 : Stp [] (Lg.O0 (fun _ => False)) w O39 wd37 := (Stp.trans (Stp.up hst14 rfl) (Stp.trans (Stp.up hst33 rfl) (Stp.up hst42 rfl)))
    exact At.res (.inl rfl) rfl (.tmp rfl .nil) ⟨rfl, (Stp.ext hs44 rfl rfl)⟩
   ·refine WC.condF' rfl hc43 ?_
    refine WC.skip ?_
    refine At.inBlock ?_
    refine At.then ?_
    refine WC.region ?_
    refine WL.y (Y.move rfl) rfl ?_
    refine WL.y (Y.add_i rfl rfl) rfl ?_
    obtain ⟨c45, hc45, h⟩ := lt1 h
    refine WL.yE (Y.assign rfl) (congrArg vi hc45.symm) rfl ?_
    refine WL.nil ?_
    exact At.round (c45, O39) j21 (Nat.lt_succ_self _) ⟨next1 h hn23, (Stp.trans (Stp.up hst14 rfl) (Stp.trans (Stp.up hst33 rfl) (Stp.up hst42 rfl)))⟩ (.cons rfl (.cons rfl .nil))
  ·refine WC.condF' rfl hc24 ?_
   refine WC.exit ?_
   refine At.thenX ?_
   refine At.loopX ?_
   exact At.hitB (σ := Own) O12 ⟨brk1 h hn23, (Stp.up hst14 rfl)⟩ .nil
 ·rintro O15 wd16 ⟨rfl, hst17⟩
  replace h := flowK_go hk20
  refine (show At _ _ _ [] _ from ?_)
  refine At.inBlockHit ?_
  refine At.then ?_
  refine WC.seq ?_
  refine WC.region ?_
  refine WL.y (Y.assign rfl) rfl ?_
  refine WL.nil ?_
  refine At.then ?_
  refine WC.ret ?_
  obtain rfl := some1 h
  have hs46 : Stp [] (Lg.O0 (fun _ => False)) w O15 wd16 := (Stp.up hst17 rfl)
  exact At.res (.inl rfl) rfl (.tmp rfl .nil) ⟨rfl, (Stp.ext hs46 rfl rfl)⟩
theorem c_ref01_Row {a0 : UInt64} {a1 : Int} {w : World} {r0 : List Int} {r1 : Bool} (h : ref01_Row a0 a1 = some (r0, r1)) : Rets Try.prog 108 [vu a0, vi a1] w (fun v w' => ∃ (u0 : Value), v = Value.tuple (List.toArray [u0, Value.bool r1]) ∧ Ext w w' ∧ RowF Rep.i 3 w w' u0 r0) := by
 unfold ref01_Row at h
 refine Rets.enter Try.func108 rfl rfl ?_
 refine (show WC _ _ _ _ [(0, vu a0), (1, vi a1)] _ from ?_)
 refine WC.seq ?_
 refine WC.region ?_
 refine WL.y (Y.assign rfl) rfl ?_
 refine WL.y (Y.assign rfl) rfl ?_
 refine WL.nil ?_
 refine At.then ?_
 refine WC.seq ?_
 refine WC.seq ?_
 refine WC.region ?_
 refine WL.y (Y.move rfl) rfl ?_
 refine WL.y (Y.lss_i rfl rfl) rfl ?_
 refine WL.y (Y.move rfl) rfl ?_
 refine WL.cut 3 (σ := Unit) (fun _ w' => w = w') (fun _ => [(0, vu a0), (1, vi a1), (13, Value.bool ((decide (a1 < 0)) || (decide (64 < a1))))]) ?_ ?_
 ·refine WL.part 10 rfl (fun hE11 => ?_) (fun hE11 => ?_)
  ·refine WL.gS rfl rfl rfl rfl ?_
   refine WL.gS rfl rfl rfl rfl ?_
   refine WL.y (Y.pick (b := true) rfl rfl) rfl ?_
   refine WL.ren (v' := Value.bool ((decide (a1 < 0)) || (decide (64 < a1)))) 13 rfl (congrArg Value.bool (orT hE11)) ?_
   exact WL.nil (At.join () rfl (.cons rfl (.cons rfl (.cons rfl .nil))))
  ·refine WL.ung rfl rfl ?_
   refine WL.y (Y.move rfl) rfl ?_
   refine WL.ung rfl rfl ?_
   refine WL.y (Y.gtr_i rfl rfl) rfl ?_
   refine WL.y (Y.pick (b := false) rfl rfl) rfl ?_
   refine WL.ren (v' := Value.bool ((decide (a1 < 0)) || (decide (64 < a1)))) 13 rfl (congrArg Value.bool (orF hE11)) ?_
   exact WL.nil (At.join () rfl (.cons rfl (.cons rfl (.cons rfl .nil))))
 ·rintro _ _ rfl
  refine (show WL _ _ _ _ _ [(0, vu a0), (1, vi a1), (13, Value.bool ((decide (a1 < 0)) || (decide (64 < a1))))] _ from ?_)
  refine WL.nil ?_
  refine At.then ?_
  rcases cnd h with ⟨hc12, h⟩ | ⟨hc12, h⟩
  ·refine WC.condT' rfl hc12 ?_
   refine WC.seq ?_
   refine WC.region ?_
   refine WL.y (Y.assign rfl) rfl ?_
   refine WL.y (Y.assign rfl) rfl ?_
   refine WL.nil ?_
   refine At.then ?_
   refine WC.ret ?_
   refine At.thenR ?_
   obtain ⟨rfl, rfl⟩ := tup2 h
   have hs13 : Stp [] (Lg.O0 (fun _ => False)) w (Lg.O0 (fun _ => False)) w := (Stp.refl _ _ _)
   exact At.res (.inl rfl) rfl (.tmp rfl (.tmp rfl .nil)) ⟨Value.slice none 0 0, rfl, (Stp.ext hs13 rfl rfl), RowF.nil⟩
  ·refine WC.condF' rfl hc12 ?_
   refine WC.skip ?_
   refine At.then ?_
   refine WC.seq ?_
   refine WC.region ?_
   refine WL.y (Y.assign rfl) rfl ?_
   refine WL.nil ?_
   refine At.then ?_
   refine WC.seq ?_
   refine WC.seq ?_
   refine WC.region ?_
   refine WL.y (Y.assign rfl) rfl ?_
   refine WL.nil ?_
   refine At.then ?_
   refine WC.block ?_
   obtain ⟨p29, h, hk31⟩ := flow1 h
   obtain ⟨k30, h⟩ := loop_some h
   refine WC.joinB 0 (σ := (UInt64 × List Int × Own × Value)) (fun x w' => p29 = .go (x.1, x.2.1) ∧ Stp [11, 1001] (Lg.O0 (fun _ => False)) w x.2.2.1 w' ∧ OwnSl 1002 Rep.i 3 x.2.2.1 w' x.2.2.2 x.2.1) (fun x => [(0, vu x.1), (6, x.2.2.2)]) ?_ ?_
   ·refine WC.loop (σ := (UInt64 × List Int × Int × Own × Value)) (fun x k w' => loopN k (ref01_Row_lp1 a1) (x.1, x.2.1, x.2.2.1) = some p29 ∧ Stp [11] (Lg.O0 (fun _ => False)) w x.2.2.2.1 w' ∧ OwnSl 1001 Rep.i 3 x.2.2.2.1 w' x.2.2.2.2 x.2.1) (fun x => [(0, vu x.1), (1, vi a1), (6, x.2.2.2.2), (7, vi x.2.2.1)]) (a0, [], 0, (Lg.O0 (fun _ => False)), Value.slice none 0 0) k30 (.cons rfl (.cons rfl (.cons rfl (.cons rfl .nil)))) ⟨h, (Stp.refl _ _ _), (OwnSl.nil 1001 Rep.i 3)⟩ ?_
    rintro ⟨v14, out15, i18, O19, v16⟩ k30 wd20 ⟨h, hst21, hf17⟩
    obtain ⟨j32, q33, rfl, h, hn34⟩ := rnd1 h
    unfold ref01_Row_lp1 at h
    try dsimp only at h hst21 hf17
    refine (show WC _ _ _ _ [(0, vu v14), (1, vi a1), (6, v16), (7, vi i18)] _ from ?_)
    refine WC.seq ?_
    refine WC.seq ?_
    refine WC.region ?_
    refine WL.y (Y.move rfl) rfl ?_
    refine WL.y (Y.move rfl) rfl ?_
    refine WL.y (Y.lss_i rfl rfl) rfl ?_
    refine WL.nil ?_
    refine At.then ?_
    rcases cnd h with ⟨hc35, h⟩ | ⟨hc35, h⟩
    ·refine WC.condT' rfl hc35 ?_
     refine WC.skip ?_
     refine At.then ?_
     refine WC.seq ?_
     refine WC.block ?_
     refine WC.seq ?_
     refine WC.region ?_
     refine WL.y (Y.move rfl) rfl ?_
     refine WL.y (Y.rem_u (b := 2) (by decide) rfl rfl) rfl ?_
     refine WL.y (Y.conv_ui ty22.u ty3.u rfl) rfl ?_
     refine WL.buildSlice (O := O19) (R := Rep.i) (vals := [(0, vi (w64 ((v14 % 2).toNat : Int)))]) 11 [vi (w64 ((v14 % 2).toNat : Int))] (xs := [w64 ((v14 % 2).toNat : Int)]) (by decide) ty64 ty3 (by decide) (by decide) (Fits.evalp rfl) (by kernel_rfl) rfl ⟨[vi (w64 ((v14 % 2).toNat : Int))], [], rfl, rfl, rfl⟩ rfl ?_
     intro v36 O38 wd39 hst40 ho37
     refine WL.y (Y.move rfl) rfl ?_
     obtain ⟨xs41, hxs41, h⟩ := bnd h
     have hf42 := hf17.st hst40 rfl rfl rfl
     refine WL.append (by decide) ty64 ty3 rfl (by decide) rfl rfl ho37 hf42.src hxs41 rfl ?_
     intro v46 O43 wd44 hst45 ho47
     refine WL.y (Y.assign rfl) rfl ?_
     refine WL.nil ?_
     refine At.then ?_
     refine WC.region ?_
     refine WL.y (Y.move rfl) rfl ?_
     refine WL.y (Y.quo_u (b := 2) (by decide) rfl rfl) rfl ?_
     obtain ⟨v48, hv48, h⟩ := lt1 h
     refine WL.yE (Y.assign rfl) (congrArg vu hv48.symm) rfl ?_
     refine WL.nil ?_
     refine At.inBlock ?_
     refine At.then ?_
     refine WC.region ?_
     refine WL.y (Y.move rfl) rfl ?_
     refine WL.y (Y.add_i rfl rfl) rfl ?_
     obtain ⟨i49, hi49, h⟩ := lt1 h
     refine WL.yE (Y.assign rfl) (congrArg vi hi49.symm) rfl ?_
     refine WL.nil ?_
     obtain ⟨O50, hst51, ho52⟩ := OwnSl.rlb 1001 rfl ho47
     exact At.round (v48, xs41, i49, O50, v46) j32 (Nat.lt_succ_self _) ⟨next1 h hn34, (Stp.trans (Stp.up hst21 rfl) (Stp.trans (Stp.up hst40 rfl) (Stp.trans (Stp.up hst45 rfl) (Stp.up hst51 rfl)))), ho52⟩ (.cons rfl (.cons rfl (.cons rfl (.cons rfl .nil))))
    ·refine WC.condF' rfl hc35 ?_
     refine WC.exit ?_
     refine At.thenX ?_
     refine At.loopX ?_
     obtain ⟨O53, hst54, ho55⟩ := OwnSl.rlb 1002 rfl hf17
     exact At.hitB (σ := (UInt64 × List Int × Own × Value)) (v14, out15, O53, v16) ⟨brk1 h hn34, (Stp.trans (Stp.up hst21 rfl) (Stp.up hst54 rfl)), ho55⟩ (.cons rfl (.cons rfl .nil))
   ·rintro ⟨v22, out23, O26, v24⟩ wd27 ⟨rfl, hst28, hf25⟩
    replace h := flowK_go hk31
    try dsimp only at h hst28 hf25
    refine (show At _ _ _ [(0, vu v22), (6, v24)] _ from ?_)
    refine At.inBlockHit ?_
    refine At.then ?_
    refine WC.seq ?_
    refine WC.region ?_
    refine WL.y (Y.move rfl) rfl ?_
    refine WL.y (Y.move rfl) rfl ?_
    refine WL.y (Y.eql_u (b := 0) rfl rfl) rfl ?_
    refine WL.y (Y.assign rfl) rfl ?_
    obtain ⟨t56, ht56, h⟩ := lt1 h
    refine WL.yE (Y.assign rfl) (congrArg Value.bool ht56.symm) rfl ?_
    refine WL.nil ?_
    refine At.then ?_
    refine WC.ret ?_
    obtain ⟨rfl, rfl⟩ := tup2 h
    have hs57 : Stp [11, 1001] (Lg.O0 (fun _ => False)) w O26 wd27 := (Stp.up hst28 rfl)
    exact At.res (.inl rfl) rfl (.tmp rfl (.tmp rfl .nil)) ⟨v24, rfl, (Stp.ext hs57 rfl rfl), (OwnSl.outF hf25 hs57 low0 rfl)⟩
theorem c_ref06_Small {a0 : UInt64} {w : World} {r0 : List Int} (h : ref06_Small a0 = some r0) : Rets Try.prog 89 [vu a0] w (fun v w' => ∃ (u0 : Value), v = u0 ∧ Ext w w' ∧ RowF Rep.i 3 w w' u0 r0) := by
 unfold ref06_Small at h
 refine Rets.enter Try.func89 rfl rfl ?_
 refine (show WC _ _ _ _ [(0, vu a0)] _ from ?_)
 refine WC.seq ?_
 refine WC.region ?_
 refine WL.y (Y.assign rfl) rfl ?_
 refine WL.nil ?_
 refine At.then ?_
 refine WC.seq ?_
 refine WC.region ?_
 refine WL.y (Y.move rfl) rfl ?_
 obtain ⟨r11, hp12, h⟩ := bnd h
 refine WL.call (vals := [vu a0]) kok107 rfl rfl (c_ref06_Class hp12) ?_
 rintro vr15 wd14 ⟨rfl, hm13⟩
 obtain ⟨O16, hold17, hnew18, hst19⟩ := adoptE (Lg.O0 (fun _ => False)) (fun k => 1) hm13
 refine WL.y (Y.assign rfl) rfl ?_
 refine WL.nil ?_
 refine At.then ?_
 refine WC.seq ?_
 refine WC.region ?_
 refine WL.y (Y.move rfl) rfl ?_
 refine WL.y (Y.conv_iu ty3.u ty22.u rfl) rfl ?_
 obtain ⟨⟨r20, r21⟩, hp22, h⟩ := bnd h
 refine WL.call (vals := [vu (toU64 r11), vi 2]) kok108 rfl rfl (c_ref01_Row hp22) ?_
 rintro vr27 wd26 ⟨u23, rfl, hm25, f24⟩
 obtain ⟨O28, hold29, hnew30, hst31⟩ := adoptE O16 (fun k => if Value.ownBlock u23 = some k then 11 else 1) hm25
 have hf32 : OwnSl 11 Rep.i 3 O28 wd26 u23 r20 := RowF.adopt 11 Flat.i f24 hnew30 (fun k hk => if_pos hk)
 refine WL.y (Y.move rfl) rfl ?_
 refine WL.y (Y.extract rfl rfl) rfl ?_
 refine WL.y (Y.extract rfl rfl) rfl ?_
 refine WL.y (Y.assign rfl) rfl ?_
 refine WL.y (Y.assign rfl) rfl ?_
 refine WL.nil ?_
 refine At.then ?_
 refine WC.seq ?_
 refine WC.region ?_
 refine WL.y (Y.move rfl) rfl ?_
 refine WL.y (Y.move rfl) rfl ?_
 obtain ⟨r33, hp34, h⟩ := bnd h
 refine WL.call (vals := [vi r11]) kok109 rfl rfl (c_ref06_size hp34) ?_
 rintro vr37 wd36 ⟨rfl, hm35⟩
 obtain ⟨O38, hold39, hnew40, hst41⟩ := adoptE O28 (fun k => 1) hm35
 obtain ⟨⟨r42, r43⟩, hp44, h⟩ := bnd h
 refine WL.call (vals := [vu a0, vi r33]) kok108 rfl rfl (c_ref01_Row hp44) ?_
 rintro vr49 wd48 ⟨u45, rfl, hm47, f46⟩
 obtain ⟨O50, hold51, hnew52, hst53⟩ := adoptE O38 (fun k => if Value.ownBlock u45 = some k then 12 else 1) hm47
 have hf54 : OwnSl 12 Rep.i 3 O50 wd48 u45 r42 := RowF.adopt 12 Flat.i f46 hnew52 (fun k hk => if_pos hk)
 refine WL.y (Y.move rfl) rfl ?_
 refine WL.y (Y.extract rfl rfl) rfl ?_
 refine WL.y (Y.extract rfl rfl) rfl ?_
 refine WL.y (Y.assign rfl) rfl ?_
 refine WL.y (Y.assign rfl) rfl ?_
 refine WL.nil ?_
 refine At.then ?_
 refine WC.seq ?_
 refine WC.region ?_
 refine WL.y (Y.move rfl) rfl ?_
 refine WL.y (Y.move rfl) rfl ?_
 obtain ⟨xs55, hxs55, h⟩ := bnd h
 have hf56 := hf32.st hst41 rfl rfl rfl
 have hf57 := hf56.st hst53 rfl rfl rfl
 refine WL.append (by decide) ty64 ty3 rfl (by decide) rfl rfl hf57 hf54.src hxs55 rfl ?_
 intro v61 O58 wd59 hst60 ho62
 refine WL.y (Y.assign rfl) rfl ?_
 refine WL.nil ?_
 refine At.then ?_
 refine WC.ret ?_
 obtain rfl := some1 h
 have hs63 : Stp [11] (Lg.O0 (fun _ => False)) w O58 wd59 := (Stp.trans (Stp.up hst19 rfl) (Stp.trans (Stp.up hst31 rfl) (Stp.trans (Stp.up hst41 rfl) (Stp.trans (Stp.up hst53 rfl) (Stp.up hst60 rfl)))))
 exact At.res (.inl rfl) rfl (.tmp rfl .nil) ⟨v61, rfl, (Stp.ext hs63 rfl rfl), (OwnSl.outF ho62 hs63 low0 rfl)⟩
theorem c_ref02_Zig {a0 : Int} {w : World} {r0 : UInt64} (h : ref02_Zig a0 = some r0) : Rets Try.prog 90 [vi a0] w (fun v w' => v = vu r0 ∧ Ext w w') := by
 unfold ref02_Zig at h
 refine Rets.enter Try.func90 rfl rfl ?_
 refine (show WC _ _ _ _ [(0, vi a0)] _ from ?_)
 refine WC.seq ?_
 refine WC.region ?_
 refine WL.y (Y.assign (v := vu 0) rfl) rfl ?_
 refine WL.nil ?_
 refine At.then ?_
 refine WC.seq ?_
 refine WC.seq ?_
 refine WC.region ?_
 refine WL.y (Y.move rfl) rfl ?_
 refine WL.y (Y.geq_i rfl rfl) rfl ?_
 refine WL.nil ?_
 refine At.then ?_
 rcases cnd h with ⟨hc11, h⟩ | ⟨hc11, h⟩
 ·refine WC.condT' rfl hc11 ?_
  refine WC.seq ?_
  refine WC.region ?_
  refine WL.y (Y.move rfl) rfl ?_
  refine WL.y (Y.conv_iu ty3.u ty22.u rfl) rfl ?_
  refine WL.y (Y.mul_u (a := 2) rfl rfl) rfl ?_
  obtain ⟨t12, ht12, h⟩ := lt1 h
  refine WL.yE (Y.assign rfl) (congrArg vu ht12.symm) rfl ?_
  refine WL.nil ?_
  refine At.then ?_
  refine WC.ret ?_
  refine At.thenR ?_
  obtain rfl := some1 h
  have hs13 : Stp [] (Lg.O0 (fun _ => False)) w (Lg.O0 (fun _ => False)) w := (Stp.refl _ _ _)
  exact At.res (.inl rfl) rfl (.tmp rfl .nil) ⟨rfl, (Stp.ext hs13 rfl rfl)⟩
 ·refine WC.condF' rfl hc11 ?_
  refine WC.skip ?_
  refine At.then ?_
  refine WC.seq ?_
  refine WC.region ?_
  refine WL.y (Y.move rfl) rfl ?_
  refine WL.y (Y.sub_i rfl rfl) rfl ?_
  refine WL.y (Y.conv_iu ty3.u ty22.u rfl) rfl ?_
  refine WL.y (Y.mul_u (a := 2) rfl rfl) rfl ?_
  refine WL.y (Y.add_u (b := 1) rfl rfl) rfl ?_
  obtain ⟨t14, ht14, h⟩ := lt1 h
  refine WL.yE (Y.assign rfl) (congrArg vu ht14.symm) rfl ?_
  refine WL.nil ?_
  refine At.then ?_
  refine WC.ret ?_
  obtain rfl := some1 h
  have hs15 : Stp [] (Lg.O0 (fun _ => False)) w (Lg.O0 (fun _ => False)) w := (Stp.refl _ _ _)
  exact At.res (.inl rfl) rfl (.tmp rfl .nil) ⟨rfl, (Stp.ext hs15 rfl rfl)⟩
theorem c_ref10_number {a0 : Int} {a1 : Int} {w : World} {r0 : List Int} (h : ref10_number a0 a1 = some r0) : Rets Try.prog 91 [vi a0, vi a1] w (fun v w' => ∃ (u0 : Value), v = u0 ∧ Ext w w' ∧ RowF Rep.i 3 w w' u0 r0) := by
 unfold ref10_number at h
 refine Rets.enter Try.func91 rfl rfl ?_
 refine (show WC _ _ _ _ [(0, vi a0), (1, vi a1)] _ from ?_)
 refine WC.seq ?_
 refine WC.region ?_
 refine WL.y (Y.assign rfl) rfl ?_
 refine WL.nil ?_
 refine At.then ?_
 refine WC.seq ?_
 refine WC.region ?_
 refine WL.y (Y.move rfl) rfl ?_
 refine WL.y (Y.conv_iu ty3.u ty22.u rfl) rfl ?_
 refine WL.y (Y.move rfl) rfl ?_
 obtain ⟨⟨r11, r12⟩, hp13, h⟩ := bnd h
 refine WL.call (vals := [vu (toU64 a0), vi a1]) kok108 rfl rfl (c_ref01_Row hp13) ?_
 rintro vr18 wd17 ⟨u14, rfl, hm16, f15⟩
 obtain ⟨O19, hold20, hnew21, hst22⟩ := adoptE (Lg.O0 (fun _ => False)) (fun k => if Value.ownBlock u14 = some k then 11 else 1) hm16
 have hf23 : OwnSl 11 Rep.i 3 O19 wd17 u14 r11 := RowF.adopt 11 Flat.i f15 hnew21 (fun k hk => if_pos hk)
 refine WL.y (Y.move rfl) rfl ?_
 refine WL.y (Y.extract rfl rfl) rfl ?_
 refine WL.y (Y.extract rfl rfl) rfl ?_
 refine WL.y (Y.assign rfl) rfl ?_
 refine WL.y (Y.assign rfl) rfl ?_
 refine WL.nil ?_
 refine At.then ?_
 refine WC.seq ?_
 refine WC.region ?_
 refine WL.y (Y.move rfl) rfl ?_
 refine WL.y (Y.assign rfl) rfl ?_
 refine WL.nil ?_
 refine At.then ?_
 refine WC.ret ?_
 obtain rfl := some1 h
 have hs24 : Stp [] (Lg.O0 (fun _ => False)) w O19 wd17 := (Stp.up hst22 rfl)
 exact At.res (.inl rfl) rfl (.tmp rfl .nil) ⟨u14, rfl, (Stp.ext hs24 rfl rfl), (OwnSl.outF hf23 hs24 low0 rfl)⟩
theorem c_ref10_shape {A : Nat → Prop} {v0_1 : Value} {a0 : api_Side} {w : World} (hs0_1 : Sl Rep.u w A v0_1 a0.Counts) {r0 : List Int} (h : ref10_shape a0 = some r0) : Rets Try.prog 92 [Value.agg (List.toArray [vi a0.Offset, v0_1])] w (fun v w' => ∃ (u0 : Value), v = u0 ∧ Ext w w' ∧ RowF Rep.i 3 w w' u0 r0) := by
 unfold ref10_shape at h
 refine Rets.enter Try.func92 rfl rfl ?_
 have hf11 : Sl Rep.u w (imm (Lg.O0 A)) v0_1 a0.Counts := (Sl.start hs0_1)
 refine (show WC _ _ _ _ [(0, Value.agg (List.toArray [vi a0.Offset, v0_1]))] _ from ?_)
 refine WC.seq ?_
 refine WC.region ?_
 have hh15 := h
 obtain ⟨p12, m13, c14, rfl⟩ := hf11.shape
 have h := hh15
 refine WL.box (O := (Lg.O0 A)) 11 [vi a0.Offset, (Value.slice p12 m13 c14)] rfl rfl rfl ?_
 intro p17 O18 wd19 hst20 hb16
 refine WL.y (Y.assign rfl) rfl ?_
 refine WL.nil ?_
 refine At.then ?_
 refine WC.seq ?_
 refine WC.region ?_
 refine WL.y (Y.fieldAddr fo25_1 rfl) rfl ?_
 refine WL.y (Y.loadSc ty23 rfl rfl (hb16.cell 1 _ rfl)) rfl ?_
 have hf21 := hf11.mono (imm_st hst20 rfl rfl)
 refine WL.y (Y.len ty23 rfl hf21) rfl ?_
 obtain ⟨r22, hp23, h⟩ := bnd h
 refine WL.call (vals := [vi (a0.Counts.length : Int), vi 8]) kok91 rfl rfl (c_ref10_number hp23) ?_
 rintro vr28 wd27 ⟨_, rfl, hm26, f25⟩
 obtain ⟨O29, hold30, hnew31, hst32⟩ := adoptE O18 (fun k => if Value.ownBlock vr28 = some k then 12 else 1) hm26
 have hf33 : OwnSl 12 Rep.i 3 O29 wd27 vr28 r22 := RowF.adopt 12 Flat.i f25 hnew31 (fun k hk => if_pos hk)
 refine WL.y (Y.assign rfl) rfl ?_
 refine WL.nil ?_
 refine At.then ?_
 refine WC.seq ?_
 refine WC.seq ?_
 refine WC.region ?_
 refine WL.y (Y.fieldAddr fo25_1 rfl) rfl ?_
 have hf34 := hb16.st hst32 rfl
 refine WL.y (Y.loadSc ty23 rfl rfl (hf34.cell 1 _ rfl)) rfl ?_
 have hf35 := hf21.mono (imm_st hst32 rfl rfl)
 refine WL.y (Y.len ty23 rfl hf35) rfl ?_
 refine WL.y (Y.gtr_i rfl rfl) rfl ?_
 refine WL.nil ?_
 refine At.then ?_
 rcases cnd h with ⟨hc36, h⟩ | ⟨hc36, h⟩
 ·refine WC.condT' rfl hc36 ?_
  refine WC.region ?_
  refine WL.y (Y.move rfl) rfl ?_
  refine WL.y (Y.fieldAddr fo25_0 rfl) rfl ?_
  refine WL.y (Y.loadSc ty3 rfl rfl (hf34.cell 0 _ rfl)) rfl ?_
  obtain ⟨r37, hp38, h⟩ := bnd h
  refine WL.call (vals := [vi a0.Offset]) kok90 rfl rfl (c_ref02_Zig hp38) ?_
  rintro vr41 wd40 ⟨rfl, hm39⟩
  obtain ⟨O42, hold43, hnew44, hst45⟩ := adoptE O29 (fun k => 1) hm39
  obtain ⟨r46, hp47, h⟩ := bnd h
  refine WL.call (vals := [vu r37]) kok89 rfl rfl (c_ref06_Small hp47) ?_
  rintro vr52 wd51 ⟨_, rfl, hm50, f49⟩
  obtain ⟨O53, hold54, hnew55, hst56⟩ := adoptE O42 (fun k => if Value.ownBlock vr52 = some k then 13 else 1) hm50
  have hf57 : OwnSl 13 Rep.i 3 O53 wd51 vr52 r46 := RowF.adopt 13 Flat.i f49 hnew55 (fun k hk => if_pos hk)
  obtain ⟨xs58, hxs58, h⟩ := bnd h
  have hf59 := hf33.st hst45 rfl rfl rfl
  have hf60 := hf59.st hst56 rfl rfl rfl
  refine WL.append (by decide) ty64 ty3 rfl (by decide) rfl rfl hf60 hf57.src hxs58 rfl ?_
  intro v64 O61 wd62 hst63 ho65
  refine WL.y (Y.assign rfl) rfl ?_
  refine WL.nil ?_
  refine At.then ?_
  refine WC.seq ?_
  refine WC.region ?_
  refine WL.y (Y.move rfl) rfl ?_
  refine WL.y (Y.assign rfl) rfl ?_
  refine WL.nil ?_
  refine At.then ?_
  refine WC.ret ?_
  obtain rfl := some1 h
  have hs66 : Stp [12] (Lg.O0 A) w O61 wd62 := (Stp.trans (Stp.up hst20 rfl) (Stp.trans (Stp.up hst32 rfl) (Stp.trans (Stp.up hst45 rfl) (Stp.trans (Stp.up hst56 rfl) (Stp.up hst63 rfl)))))
  exact At.res (.inl rfl) rfl (.tmp rfl .nil) ⟨v64, rfl, (Stp.ext hs66 rfl rfl), (OwnSl.outF ho65 hs66 low0 rfl)⟩
 ·refine WC.condF' rfl hc36 ?_
  refine WC.skip ?_
  refine At.then ?_
  refine WC.seq ?_
  refine WC.region ?_
  refine WL.y (Y.move rfl) rfl ?_
  refine WL.y (Y.assign rfl) rfl ?_
  refine WL.nil ?_
  refine At.then ?_
  refine WC.ret ?_
  obtain rfl := some1 h
  have hs67 : Stp [] (Lg.O0 A) w O29 wd27 := (Stp.trans (Stp.up hst20 rfl) (Stp.up hst32 rfl))
  exact At.res (.inl rfl) rfl (.tmp rfl .nil) ⟨vr28, rfl, (Stp.ext hs67 rfl rfl), (OwnSl.outF hf33 hs67 low0 rfl)⟩
theorem c_ref10_Put {A : Nat → Prop} {a0 : List api_Hist} {v0 : Value} {v1_3 : Value} {v1_5 : Value} {a1 : api_Hist} {w : World} (hs0 : Sl rep_api_Hist w A v0 a0) (hs1_3 : Sl Rep.u w A v1_3 a1.Pos.Counts) (hs1_5 : Sl Rep.u w A v1_5 a1.Neg.Counts) {r0 : List Int} (h : ref10_Put a0 a1 = some r0) : Rets Try.prog 55 [v0, Value.agg (List.toArray [vi a1.Scale, vu a1.Zero, vi a1.Pos.Offset, v1_3, vi a1.Neg.Offset, v1_5])] w (fun v w' => ∃ (u0 : Value), v = u0 ∧ Ext w w' ∧ RowF Rep.i 3 w w' u0 r0) := by
 unfold ref10_Put at h
 refine Rets.enter Try.func55 rfl rfl ?_
 have hf11 : Sl rep_api_Hist w (imm (Lg.O0 A)) v0 a0 := (Sl.start hs0)
 have hf12 : Sl Rep.u w (imm (Lg.O0 A)) v1_3 a1.Pos.Counts := (Sl.start hs1_3)
 have hf13 : Sl Rep.u w (imm (Lg.O0 A)) v1_5 a1.Neg.Counts := (Sl.start hs1_5)
 refine (show WC _ _ _ _ [(0, v0), (1, Value.agg (List.toArray [vi a1.Scale, vu a1.Zero, vi a1.Pos.Offset, v1_3, vi a1.Neg.Offset, v1_5]))] _ from ?_)
 refine WC.seq ?_
 refine WC.region ?_
 have hh17 := h
 obtain ⟨p14, m15, c16, rfl⟩ := hf12.shape
 have h := hh17
 have hh21 := h
 obtain ⟨p18, m19, c20, rfl⟩ := hf13.shape
 have h := hh21
 refine WL.box (O := (Lg.O0 A)) 11 [vi a1.Scale, vu a1.Zero, vi a1.Pos.Offset, (Value.slice p14 m15 c16), vi a1.Neg.Offset, (Value.slice p18 m19 c20)] rfl rfl rfl ?_
 intro p23 O24 wd25 hst26 hb22
 refine WL.y (Y.assign rfl) rfl ?_
 refine WL.nil ?_
 refine At.then ?_
 refine WC.seq ?_
 refine WC.region ?_
 refine WL.y (Y.move rfl) rfl ?_
 have hf27 := hf11.mono (imm_st hst26 rfl rfl)
 refine WL.y (Y.len ty45 rfl hf27) rfl ?_
 obtain ⟨nv28, hnv28, h⟩ := lt1 h
 refine WL.yE (Y.assign rfl) (congrArg vi hnv28.symm) rfl ?_
 refine WL.nil ?_
 refine At.then ?_
 refine WC.seq ?_
 refine WC.seq ?_
 refine WC.drawH [] [0, 1, 2, 3, 4, 5, 6, 7, 8, 9, 10] O24 11 fmix rfl (by kernel_rfl) ?_
 intro wd29 hst30
 refine WD.y 0 rfl (by kernel_rfl) (fun _ _ _ => Y.move rfl) rfl ?_
 refine WD.y 1 rfl (by kernel_rfl) (fun _ _ _ => Y.gtr_i rfl rfl) rfl ?_
 refine WD.y 2 rfl (by kernel_rfl) (fun _ _ _ => Y.move rfl) rfl ?_
 obtain ⟨p44, h, hk45⟩ := bnd h
 refine WD.join (σ := (Bool × Own)) (f' := 0) [10, 9, 8, 7, 6, 5, 4, 3, 2, 1, 0] (fun x O' w' => x.1 = p44 ∧ Stp [] O24 wd29 x.2 w' ∧ x.2 = O') (fun x => [(0, v0), (3, Value.pointer (some ⟨p23, 0, none⟩)), (5, vi nv28), (25, Value.bool x.1)]) (fun hJ46 => ?_) ?_
 ·rcases cnd h with ⟨hE47, h⟩ | ⟨hE47, h⟩
  ·refine WD.ren 17 rfl (congrArg Value.bool hE47) ?_
   refine WD.gT 3 rfl (by kernel_rfl) rfl rfl (fun _ _ _ => Y.move rfl) rfl ?_
   refine WD.gT 4 rfl (by kernel_rfl) rfl rfl (fun _ _ _ => Y.move rfl) rfl ?_
   refine WD.gT 5 rfl (by kernel_rfl) rfl rfl (fun _ _ _ => Y.sub_i rfl rfl) rfl ?_
   obtain ⟨e57, he57, h⟩ := bnd h
   have hf66 := hf27.mono (imm_st hst30 rfl rfl)
   obtain ⟨b58, off71, cap65, cs64, hv59, hi60, hl61, hc62, hok63, hA72⟩ := Sl.at2 hf66 he57
   obtain ⟨_, _, rfl, rfl, ⟨_, _, rfl, rfl, ⟨_, _, rfl, ⟨_, _, rfl, rfl, ⟨v67, rfl, hf68⟩⟩, ⟨_, _, rfl, rfl, ⟨v69, rfl, hf70⟩⟩⟩⟩⟩ := hok63
   replace hc62 : CellsAt _ _ _ [vi e57.Scale, vu e57.Zero, vi e57.Pos.Offset, v67, vi e57.Neg.Offset, v69] := hc62
   have hca73 := CAt.imm hc62 hA72
   refine WD.gT 6 rfl (by kernel_rfl) rfl rfl (fun _ _ _ => Y.indexAddr ty45 ty27 rfl hv59 rfl hi60 hl61) rfl ?_
   refine WD.gT 7 rfl (by kernel_rfl) rfl rfl (fun wd78 O77 hst79 => have hf80 := hca73.st hst79 rfl; Y.loadAg ty27 rfl rfl hf80.at_ rfl) rfl ?_
   refine WD.gT 8 rfl (by kernel_rfl) rfl rfl (fun wd82 O81 hst83 => have hf84 := hb22.st hst30 rfl; have hf85 := hf84.st hst83 rfl; Y.loadAg ty27 rfl rfl (hf85.cells 0 [vi a1.Scale, vu a1.Zero, vi a1.Pos.Offset, (Value.slice p14 m15 c16), vi a1.Neg.Offset, (Value.slice p18 m19 c20)] rfl) rfl) rfl ?_
   refine WD.heavy 9 rfl (by kernel_rfl) ?_
   refine WL.ung rfl rfl ?_
   have hf86 := hf12.mono (imm_st hst26 rfl rfl)
   have hf87 := hf86.mono (imm_st hst30 rfl rfl)
   have hf88 := hf13.mono (imm_st hst26 rfl rfl)
   have hf89 := hf88.mono (imm_st hst30 rfl rfl)
   obtain ⟨r90, hp91, h⟩ := bnd h
   refine WL.call (vals := [Value.agg (List.toArray [vi e57.Scale, vu e57.Zero, vi e57.Pos.Offset, v67, vi e57.Neg.Offset, v69]), Value.agg (List.toArray [vi a1.Scale, vu a1.Zero, vi a1.Pos.Offset, (Value.slice p14 m15 c16), vi a1.Neg.Offset, (Value.slice p18 m19 c20)])]) kok81 rfl rfl (c_ref10_Alike (A := fun _ => True) (a0 := e57) (a1 := a1) (Sl.all hf68) (Sl.all hf70) (Sl.all hf87) (Sl.all hf89) hp91) ?_
   rintro vr94 wd93 ⟨rfl, hm92⟩
   obtain ⟨O95, hold96, hnew97, hst98⟩ := adoptE O24 (fun k => 1) hm92
   refine WL.nil ?_
   refine At.dq (Stp.up hst98 rfl) ?_
   refine WD.y 10 rfl (by kernel_rfl) (fun _ _ _ => Y.pick (b := true) rfl rfl) rfl ?_
   refine WD.ren 17 rfl (congrArg Value.bool hE47.symm) ?_
   exact hJ46 (r90, O95) _ _ _ ⟨some1 h, (Stp.up hst98 rfl), rfl⟩ (.cons rfl (.cons rfl (.cons rfl (.cons rfl .nil))))
  ·refine WD.ren 17 rfl (congrArg Value.bool hE47) ?_
   refine WD.gS 3 rfl (by kernel_rfl) rfl rfl rfl rfl ?_
   refine WD.gS 4 rfl (by kernel_rfl) rfl rfl rfl rfl ?_
   refine WD.gS 5 rfl (by kernel_rfl) rfl rfl rfl rfl ?_
   refine WD.gS 6 rfl (by kernel_rfl) rfl rfl rfl rfl ?_
   refine WD.gS 7 rfl (by kernel_rfl) rfl rfl rfl rfl ?_
   refine WD.gS 8 rfl (by kernel_rfl) rfl rfl rfl rfl ?_
   refine WD.heavy 9 rfl (by kernel_rfl) ?_
   refine WL.gS rfl rfl rfl rfl ?_
   refine WL.nil ?_
   refine At.dq (Stp.refl _ _ _) ?_
   refine WD.y 10 rfl (by kernel_rfl) (fun _ _ _ => Y.pick (b := false) rfl rfl) rfl ?_
   refine WD.ren 17 rfl (congrArg Value.bool hE47.symm) ?_
   exact hJ46 (false, O24) _ _ _ ⟨some1 h, (Stp.refl _ _ _), rfl⟩ (.cons rfl (.cons rfl (.cons rfl (.cons rfl .nil))))
 ·rintro ⟨x40, O41⟩ _ wd42 ⟨rfl, hst43, rfl⟩
  replace h := hk45
  try dsimp only at h hst43
  refine (show WD _ _ _ _ _ _ _ _ [(0, v0), (3, Value.pointer (some ⟨p23, 0, none⟩)), (5, vi nv28), (25, Value.bool x40)] _ _ from ?_)
  refine WD.done_ (by kernel_rfl) ?_
  refine At.then ?_
  rcases cnd h with ⟨hc105, h⟩ | ⟨hc105, h⟩
  ·refine WC.condT' rfl hc105 ?_
   refine WC.seq ?_
   refine WC.region ?_
   refine WL.buildSlice (O := O41) (R := Rep.i) (vals := [(0, vi 1)]) 12 [vi 1] (xs := [1]) (by decide) ty64 ty3 (by decide) (by decide) (Fits.evalp rfl) (by kernel_rfl) rfl ⟨[vi 1], [], rfl, rfl, rfl⟩ rfl ?_
   intro v106 O108 wd109 hst110 ho107
   refine WL.y (Y.assign rfl) rfl ?_
   refine WL.nil ?_
   refine At.then ?_
   refine WC.seq ?_
   refine WC.drawH [] [0, 1, 2, 3, 4, 5, 6, 7, 8, 9] O108 10 fmix rfl (by kernel_rfl) ?_
   intro wd111 hst112
   refine WD.y 0 rfl (by kernel_rfl) (fun wd114 O113 hst115 => have hf116 := hb22.st hst30 rfl; have hf117 := hf116.st hst43 rfl; have hf118 := hf117.st hst110 rfl; have hf119 := hf118.st hst112 rfl; have hf120 := hf119.st hst115 rfl; Y.loadAg ty27 rfl rfl (hf120.cells 0 [vi a1.Scale, vu a1.Zero, vi a1.Pos.Offset, (Value.slice p14 m15 c16), vi a1.Neg.Offset, (Value.slice p18 m19 c20)] rfl) rfl) rfl ?_
   refine WD.y 2 rfl (by kernel_rfl) (fun _ _ _ => Y.move rfl) rfl ?_
   refine WD.y 3 rfl (by kernel_rfl) (fun _ _ _ => Y.move rfl) rfl ?_
   refine WD.y 4 rfl (by kernel_rfl) (fun _ _ _ => Y.sub_i rfl rfl) rfl ?_
   obtain ⟨e130, he130, h⟩ := bnd h
   have hf139 := hf27.mono (imm_st hst30 rfl rfl)
   have hf140 := hf139.mono (imm_st hst43 rfl rfl)
   have hf141 := hf140.mono (imm_st hst110 rfl rfl)
   have hf142 := hf141.mono (imm_st hst112 rfl rfl)
   obtain ⟨b131, off147, cap138, cs137, hv132, hi133, hl134, hc135, hok136, hA148⟩ := Sl.at2 hf142 he130
   obtain ⟨_, _, rfl, rfl, ⟨_, _, rfl, rfl, ⟨_, _, rfl, ⟨_, _, rfl, rfl, ⟨v143, rfl, hf144⟩⟩, ⟨_, _, rfl, rfl, ⟨v145, rfl, hf146⟩⟩⟩⟩⟩ := hok136
   replace hc135 : CellsAt _ _ _ [vi e130.Scale, vu e130.Zero, vi e130.Pos.Offset, v143, vi e130.Neg.Offset, v145] := hc135
   have hca149 := CAt.imm hc135 hA148
   refine WD.y 5 rfl (by kernel_rfl) (fun _ _ _ => Y.indexAddr ty45 ty27 rfl hv132 rfl hi133 hl134) rfl ?_
   refine WD.y 6 rfl (by kernel_rfl) (fun wd154 O153 hst155 => have hf156 := hca149.st hst155 rfl; Y.loadAg ty27 rfl rfl hf156.at_ rfl) rfl ?_
   refine WD.heavy 1 rfl (by kernel_rfl) ?_
   have hf157 := hf12.mono (imm_st hst26 rfl rfl)
   have hf158 := hf157.mono (imm_st hst30 rfl rfl)
   have hf159 := hf158.mono (imm_st hst43 rfl rfl)
   have hf160 := hf159.mono (imm_st hst110 rfl rfl)
   have hf161 := hf160.mono (imm_st hst112 rfl rfl)
   have hf162 := hf13.mono (imm_st hst26 rfl rfl)
   have hf163 := hf162.mono (imm_st hst30 rfl rfl)
   have hf164 := hf163.mono (imm_st hst43 rfl rfl)
   have hf165 := hf164.mono (imm_st hst110 rfl rfl)
   have hf166 := hf165.mono (imm_st hst112 rfl rfl)
   obtain ⟨r167, hp168, h⟩ := bnd h
   refine WL.call (vals := [Value.agg (List.toArray [vi a1.Scale, vu a1.Zero, vi a1.Pos.Offset, (Value.slice p14 m15 c16), vi a1.Neg.Offset, (Value.slice p18 m19 c20)])]) kok77 rfl rfl (c_ref10_all (A := fun _ => True) (a0 := a1) (Sl.all hf161) (Sl.all hf166) hp168) ?_
   rintro vr173 wd172 ⟨_, rfl, hm171, f170⟩
   obtain ⟨O174, hold175, hnew176, hst177⟩ := adoptE O108 (fun k => if Value.ownBlock vr173 = some k then 13 else 1) hm171
   have hf178 : OwnSl 13 Rep.u 22 O174 wd172 vr173 r167 := RowF.adopt 13 Flat.u f170 hnew176 (fun k hk => if_pos hk)
   refine WL.nil ?_
   refine At.dq (Stp.up hst177 rfl) ?_
   refine WD.heavy 7 rfl (by kernel_rfl) ?_
   have hf179 := hf144.mono (imm_st hst177 rfl rfl)
   have hf180 := hf146.mono (imm_st hst177 rfl rfl)
   obtain ⟨r181, hp182, h⟩ := bnd h
   refine WL.call (vals := [Value.agg (List.toArray [vi e130.Scale, vu e130.Zero, vi e130.Pos.Offset, v143, vi e130.Neg.Offset, v145])]) kok77 rfl rfl (c_ref10_all (A := fun _ => True) (a0 := e130) (Sl.all hf179) (Sl.all hf180) hp182) ?_
   rintro vr187 wd186 ⟨_, rfl, hm185, f184⟩
   obtain ⟨O188, hold189, hnew190, hst191⟩ := adoptE O174 (fun k => if Value.ownBlock vr187 = some k then 14 else 1) hm185
   have hf192 : OwnSl 14 Rep.u 22 O188 wd186 vr187 r181 := RowF.adopt 14 Flat.u f184 hnew190 (fun k hk => if_pos hk)
   refine WL.nil ?_
   refine At.dq (Stp.up hst191 rfl) ?_
   refine WD.y 8 rfl (by kernel_rfl) (fun _ _ _ => Y.assign rfl) rfl ?_
   refine WD.y 9 rfl (by kernel_rfl) (fun _ _ _ => Y.assign rfl) rfl ?_
   refine WD.done_ (by kernel_rfl) ?_
   refine At.then ?_
   refine WC.seq ?_
   refine WC.seq ?_
   refine WC.region ?_
   refine WL.y (Y.assign rfl) rfl ?_
   refine WL.nil ?_
   refine At.then ?_
   refine WC.block ?_
   obtain ⟨p212, h, hk214⟩ := flow1 h
   obtain ⟨k213, h⟩ := loop_some h
   refine WC.joinB 0 (σ := (List Int × Own × Value)) (fun x w' => p212 = .go x.1 ∧ Stp [12, 1001] O188 wd186 x.2.1 w' ∧ OwnSl 1002 Rep.i 3 x.2.1 w' x.2.2 x.1) (fun x => [(6, x.2.2)]) ?_ ?_
   ·have hf215 := ho107.st hst112 rfl rfl rfl
    have hf216 := hf215.st hst177 rfl rfl rfl
    have hf217 := hf216.st hst191 rfl rfl rfl
    obtain ⟨O218, hst219, ho220⟩ := OwnSl.rlb 1001 rfl hf217
    refine WC.loop (σ := (List Int × Int × Own × Value)) (fun x k w' => loopN k (ref10_Put_lp1 r167 r181) (x.1, x.2.1) = some p212 ∧ Stp [12, 1001] O188 wd186 x.2.2.1 w' ∧ OwnSl 1001 Rep.i 3 x.2.2.1 w' x.2.2.2 x.1) (fun x => [(6, x.2.2.2), (7, vr173), (8, vr187), (9, vi x.2.1)]) ([1], 0, O218, v106) k213 (.cons rfl (.cons rfl (.cons rfl (.cons rfl .nil)))) ⟨h, (Stp.up hst219 rfl), ho220⟩ ?_
    rintro ⟨out199, i202, O203, v200⟩ k213 wd204 ⟨h, hst205, hf201⟩
    obtain ⟨j221, q222, rfl, h, hn223⟩ := rnd1 h
    unfold ref10_Put_lp1 at h
    try dsimp only at h hst205 hf201
    refine (show WC _ _ _ _ [(6, v200), (7, vr173), (8, vr187), (9, vi i202)] _ from ?_)
    refine WC.seq ?_
    refine WC.seq ?_
    refine WC.region ?_
    refine WL.y (Y.move rfl) rfl ?_
    refine WL.y (Y.move rfl) rfl ?_
    have hf224 := hf178.st hst191 rfl rfl rfl
    have hf225 := hf224.st hst205 rfl rfl rfl
    refine WL.y (Y.len ty23 rfl hf225.src.sl) rfl ?_
    refine WL.y (Y.lss_i rfl rfl) rfl ?_
    refine WL.nil ?_
    refine At.then ?_
    rcases cnd h with ⟨hc226, h⟩ | ⟨hc226, h⟩
    ·refine WC.condT' rfl hc226 ?_
     refine WC.skip ?_
     refine At.then ?_
     refine WC.seq ?_
     refine WC.block ?_
     refine WC.drawH [1001] [0, 1, 2, 3, 4, 5, 6, 7, 8, 9, 10, 11, 12, 13, 14] O203 15 fmix rfl (by kernel_rfl) ?_
     intro wd227 hst228
     refine WD.y 0 rfl (by kernel_rfl) (fun _ _ _ => Y.move rfl) rfl ?_
     refine WD.y 1 rfl (by kernel_rfl) (fun _ _ _ => Y.move rfl) rfl ?_
     refine WD.y 2 rfl (by kernel_rfl) (fun _ _ _ => Y.move rfl) rfl ?_
     obtain ⟨e238, he238, h⟩ := bnd h
     have hf247 := hf225.st hst228 rfl rfl rfl
     obtain ⟨b239, cap246, cs245, hv240, hi241, hl242, hc243, hok244⟩ := OwnSl.at hf247 he238
     obtain rfl := hok244
     replace hc243 : CellsAt _ _ _ [vu e238] := hc243
     have hca248 := CAt.own hf247 hv240 hc243
     refine WD.y 3 rfl (by kernel_rfl) (fun _ _ _ => Y.indexAddr ty23 ty22 rfl hv240 rfl hi241 hl242) rfl ?_
     refine WD.y 4 rfl (by kernel_rfl) (fun wd253 O252 hst254 => have hf255 := hca248.st hst254 rfl; Y.loadSc ty22 rfl rfl hf255.at_) rfl ?_
     refine WD.y 5 rfl (by kernel_rfl) (fun _ _ _ => Y.move rfl) rfl ?_
     refine WD.y 6 rfl (by kernel_rfl) (fun _ _ _ => Y.move rfl) rfl ?_
     obtain ⟨e262, he262, h⟩ := bnd h
     have hf271 := hf192.st hst205 rfl rfl rfl
     have hf272 := hf271.st hst228 rfl rfl rfl
     obtain ⟨b263, cap270, cs269, hv264, hi265, hl266, hc267, hok268⟩ := OwnSl.at hf272 he262
     obtain rfl := hok268
     replace hc267 : CellsAt _ _ _ [vu e262] := hc267
     have hca273 := CAt.own hf272 hv264 hc267
     refine WD.y 7 rfl (by kernel_rfl) (fun _ _ _ => Y.indexAddr ty23 ty22 rfl hv264 rfl hi265 hl266) rfl ?_
     refine WD.y 8 rfl (by kernel_rfl) (fun wd278 O277 hst279 => have hf280 := hca273.st hst279 rfl; Y.loadSc ty22 rfl rfl hf280.at_) rfl ?_
     refine WD.y 9 rfl (by kernel_rfl) (fun _ _ _ => Y.sub_u rfl rfl) rfl ?_
     refine WD.y 10 rfl (by kernel_rfl) (fun _ _ _ => Y.conv_ui ty22.u ty3.u rfl) rfl ?_
     refine WD.heavy 11 rfl (by kernel_rfl) ?_
     obtain ⟨r287, hp288, h⟩ := bnd h
     refine WL.call (vals := [vi (w64 ((e238 - e262).toNat : Int))]) kok90 rfl rfl (c_ref02_Zig hp288) ?_
     rintro vr291 wd290 ⟨rfl, hm289⟩
     obtain ⟨O292, hold293, hnew294, hst295⟩ := adoptE O203 (fun k => 1) hm289
     refine WL.nil ?_
     refine At.dq (Stp.up hst295 rfl) ?_
     refine WD.heavy 12 rfl (by kernel_rfl) ?_
     obtain ⟨r296, hp297, h⟩ := bnd h
     refine WL.call (vals := [vu r287]) kok89 rfl rfl (c_ref06_Small hp297) ?_
     rintro vr302 wd301 ⟨_, rfl, hm300, f299⟩
     obtain ⟨O303, hold304, hnew305, hst306⟩ := adoptE O292 (fun k => if Value.ownBlock vr302 = some k then 15 else 1) hm300
     have hf307 : OwnSl 15 Rep.i 3 O303 wd301 vr302 r296 := RowF.adopt 15 Flat.i f299 hnew305 (fun k hk => if_pos hk)
     refine WL.nil ?_
     refine At.dq (Stp.up hst306 rfl) ?_
     refine WD.heavy 13 rfl (by kernel_rfl) ?_
     obtain ⟨xs308, hxs308, h⟩ := bnd h
     have hf309 := hf201.st hst228 rfl rfl rfl
     have hf310 := hf309.st hst295 rfl rfl rfl
     have hf311 := hf310.st hst306 rfl rfl rfl
     refine WL.append (by decide) ty64 ty3 rfl (by decide) rfl rfl hf311 hf307.src hxs308 rfl ?_
     intro v315 O312 wd313 hst314 ho316
     refine WL.nil ?_
     refine At.dq (Stp.up hst314 rfl) ?_
     refine WD.y 14 rfl (by kernel_rfl) (fun _ _ _ => Y.assign rfl) rfl ?_
     refine WD.done_ (by kernel_rfl) ?_
     refine At.inBlock ?_
     refine At.then ?_
     refine WC.region ?_
     refine WL.y (Y.move rfl) rfl ?_
     refine WL.y (Y.add_i rfl rfl) rfl ?_
     obtain ⟨i320, hi320, h⟩ := lt1 h
     refine WL.yE (Y.assign rfl) (congrArg vi hi320.symm) rfl ?_
     refine WL.nil ?_
     exact At.round (xs308, i320, O312, v315) j221 (Nat.lt_succ_self _) ⟨next1 h hn223, (Stp.trans (Stp.up hst205 rfl) (Stp.trans (Stp.up hst228 rfl) (Stp.trans (Stp.up hst295 rfl) (Stp.trans (Stp.up hst306 rfl) (Stp.up hst314 rfl))))), ho316⟩ (.cons rfl (.cons rfl (.cons rfl (.cons rfl .nil))))
    ·refine WC.condF' rfl hc226 ?_
     refine WC.exit ?_
     refine At.thenX ?_
     refine At.loopX ?_
     obtain ⟨O321, hst322, ho323⟩ := OwnSl.rlb 1002 rfl hf201
     exact At.hitB (σ := (List Int × Own × Value)) (out199, O321, v200) ⟨brk1 h hn223, (Stp.trans (Stp.up hst205 rfl) (Stp.up hst322 rfl)), ho323⟩ (.cons rfl .nil)
   ·rintro ⟨out206, O209, v207⟩ wd210 ⟨rfl, hst211, hf208⟩
    replace h := flowK_go hk214
    try dsimp only at h hst211 hf208
    refine (show At _ _ _ [(6, v207)] _ from ?_)
    refine At.inBlockHit ?_
    refine At.then ?_
    refine WC.seq ?_
    refine WC.region ?_
    refine WL.y (Y.move rfl) rfl ?_
    refine WL.y (Y.assign rfl) rfl ?_
    refine WL.nil ?_
    refine At.then ?_
    refine WC.ret ?_
    refine At.thenR ?_
    obtain rfl := some1 h
    have hs324 : Stp [12, 1001] (Lg.O0 A) w O209 wd210 := (Stp.trans (Stp.up hst26 rfl) (Stp.trans (Stp.up hst30 rfl) (Stp.trans (Stp.up hst43 rfl) (Stp.trans (Stp.up hst110 rfl) (Stp.trans (Stp.up hst112 rfl) (Stp.trans (Stp.up hst177 rfl) (Stp.trans (Stp.up hst191 rfl) (Stp.up hst211 rfl))))))))
    exact At.res (.inl rfl) rfl (.tmp rfl .nil) ⟨v207, rfl, (Stp.ext hs324 rfl rfl), (OwnSl.outF hf208 hs324 low0 rfl)⟩
  ·refine WC.condF' rfl hc105 ?_
   refine WC.skip ?_
   refine At.then ?_
   refine WC.seq ?_
   refine WC.region ?_
   refine WL.buildSlice (O := O41) (R := Rep.i) (vals := [(0, vi 0)]) 16 [vi 0] (xs := [0]) (by decide) ty64 ty3 (by decide) (by decide) (Fits.evalp rfl) (by kernel_rfl) rfl ⟨[vi 0], [], rfl, rfl, rfl⟩ rfl ?_
   intro v325 O327 wd328 hst329 ho326
   refine WL.y (Y.fieldAddr fo27_0 rfl) rfl ?_
   have hf330 := hb22.st hst30 rfl
   have hf331 := hf330.st hst43 rfl
   have hf332 := hf331.st hst329 rfl
   refine WL.y (Y.loadSc ty3 rfl rfl (hf332.cell 0 _ rfl)) rfl ?_
   refine WL.y (Y.add_i rfl rfl) rfl ?_
   obtain ⟨r333, hp334, h⟩ := bnd h
   refine WL.call (vals := [vi (w64 (a1.Scale + 10)), vi 5]) kok91 rfl rfl (c_ref10_number hp334) ?_
   rintro vr339 wd338 ⟨_, rfl, hm337, f336⟩
   obtain ⟨O340, hold341, hnew342, hst343⟩ := adoptE O327 (fun k => if Value.ownBlock vr339 = some k then 17 else 1) hm337
   have hf344 : OwnSl 17 Rep.i 3 O340 wd338 vr339 r333 := RowF.adopt 17 Flat.i f336 hnew342 (fun k hk => if_pos hk)
   obtain ⟨xs345, hxs345, h⟩ := bnd h
   have hf346 := ho326.st hst343 rfl rfl rfl
   refine WL.append (by decide) ty64 ty3 rfl (by decide) rfl rfl hf346 hf344.src hxs345 rfl ?_
   intro v350 O347 wd348 hst349 ho351
   refine WL.y (Y.assign rfl) rfl ?_
   refine WL.nil ?_
   refine At.then ?_
   refine WC.seq ?_
   refine WC.region ?_
   refine WL.y (Y.move rfl) rfl ?_
   refine WL.y (Y.fieldAddr fo27_2 rfl) rfl ?_
   have hf352 := hf332.st hst343 rfl
   have hf353 := hf352.st hst349 rfl
   refine WL.y (Y.loadAg ty25 rfl rfl (hf353.cells 2 [vi a1.Pos.Offset, (Value.slice p14 m15 c16)] rfl) rfl) rfl ?_
   have hf354 := hf12.mono (imm_st hst26 rfl rfl)
   have hf355 := hf354.mono (imm_st hst30 rfl rfl)
   have hf356 := hf355.mono (imm_st hst43 rfl rfl)
   have hf357 := hf356.mono (imm_st hst329 rfl rfl)
   have hf358 := hf357.mono (imm_st hst343 rfl rfl)
   have hf359 := hf358.mono (imm_st hst349 rfl rfl)
   obtain ⟨r360, hp361, h⟩ := bnd h
   refine WL.call (vals := [Value.agg (List.toArray [vi a1.Pos.Offset, (Value.slice p14 m15 c16)])]) kok92 rfl rfl (c_ref10_shape (A := fun _ => True) (a0 := a1.Pos) (Sl.all hf359) hp361) ?_
   rintro vr366 wd365 ⟨_, rfl, hm364, f363⟩
   obtain ⟨O367, hold368, hnew369, hst370⟩ := adoptE O347 (fun k => if Value.ownBlock vr366 = some k then 18 else 1) hm364
   have hf371 : OwnSl 18 Rep.i 3 O367 wd365 vr366 r360 := RowF.adopt 18 Flat.i f363 hnew369 (fun k hk => if_pos hk)
   obtain ⟨xs372, hxs372, h⟩ := bnd h
   have hf373 := ho351.st hst370 rfl rfl rfl
   refine WL.append (by decide) ty64 ty3 rfl (by decide) rfl rfl hf373 hf371.src hxs372 rfl ?_
   intro v377 O374 wd375 hst376 ho378
   refine WL.y (Y.assign rfl) rfl ?_
   refine WL.nil ?_
   refine At.then ?_
   refine WC.seq ?_
   refine WC.region ?_
   refine WL.y (Y.move rfl) rfl ?_
   refine WL.y (Y.fieldAddr fo27_3 rfl) rfl ?_
   have hf379 := hf353.st hst370 rfl
   have hf380 := hf379.st hst376 rfl
   refine WL.y (Y.loadAg ty25 rfl rfl (hf380.cells 4 [vi a1.Neg.Offset, (Value.slice p18 m19 c20)] rfl) rfl) rfl ?_
   have hf381 := hf13.mono (imm_st hst26 rfl rfl)
   have hf382 := hf381.mono (imm_st hst30 rfl rfl)
   have hf383 := hf382.mono (imm_st hst43 rfl rfl)
   have hf384 := hf383.mono (imm_st hst329 rfl rfl)
   have hf385 := hf384.mono (imm_st hst343 rfl rfl)
   have hf386 := hf385.mono (imm_st hst349 rfl rfl)
   have hf387 := hf386.mono (imm_st hst370 rfl rfl)
   have hf388 := hf387.mono (imm_st hst376 rfl rfl)
   obtain ⟨r389, hp390, h⟩ := bnd h
   refine WL.call (vals := [Value.agg (List.toArray [vi a1.Neg.Offset, (Value.slice p18 m19 c20)])]) kok92 rfl rfl (c_ref10_shape (A := fun _ => True) (a0 := a1.Neg) (Sl.all hf388) hp390) ?_
   rintro vr395 wd394 ⟨_, rfl, hm393, f392⟩
   obtain ⟨O396, hold397, hnew398, hst399⟩ := adoptE O374 (fun k => if Value.ownBlock vr395 = some k then 19 else 1) hm393
   have hf400 : OwnSl 19 Rep.i 3 O396 wd394 vr395 r389 := RowF.adopt 19 Flat.i f392 hnew398 (fun k hk => if_pos hk)
   obtain ⟨xs401, hxs401, h⟩ := bnd h
   have hf402 := ho378.st hst399 rfl rfl rfl
   refine WL.append (by decide) ty64 ty3 rfl (by decide) rfl rfl hf402 hf400.src hxs401 rfl ?_
   intro v406 O403 wd404 hst405 ho407
   refine WL.y (Y.assign rfl) rfl ?_
   refine WL.nil ?_
   refine At.then ?_
   refine WC.seq ?_
   refine WC.region ?_
   have hf408 := hf380.st hst399 rfl
   have hf409 := hf408.st hst405 rfl
   refine WL.y (Y.loadAg ty27 rfl rfl (hf409.cells 0 [vi a1.Scale, vu a1.Zero, vi a1.Pos.Offset, (Value.slice p14 m15 c16), vi a1.Neg.Offset, (Value.slice p18 m19 c20)] rfl) rfl) rfl ?_
   have hf410 := hf359.mono (imm_st hst370 rfl rfl)
   have hf411 := hf410.mono (imm_st hst376 rfl rfl)
   have hf412 := hf411.mono (imm_st hst399 rfl rfl)
   have hf413 := hf412.mono (imm_st hst405 rfl rfl)
   have hf414 := hf388.mono (imm_st hst399 rfl rfl)
   have hf415 := hf414.mono (imm_st hst405 rfl rfl)
   obtain ⟨r416, hp417, h⟩ := bnd h
   refine WL.call (vals := [Value.agg (List.toArray [vi a1.Scale, vu a1.Zero, vi a1.Pos.Offset, (Value.slice p14 m15 c16), vi a1.Neg.Offset, (Value.slice p18 m19 c20)])]) kok77 rfl rfl (c_ref10_all (A := fun _ => True) (a0 := a1) (Sl.all hf413) (Sl.all hf415) hp417) ?_
   rintro vr422 wd421 ⟨_, rfl, hm420, f419⟩
   obtain ⟨O423, hold424, hnew425, hst426⟩ := adoptE O403 (fun k => if Value.ownBlock vr422 = some k then 20 else 1) hm420
   have hf427 : OwnSl 20 Rep.u 22 O423 wd421 vr422 r416 := RowF.adopt 20 Flat.u f419 hnew425 (fun k hk => if_pos hk)
   refine WL.y (Y.assign rfl) rfl ?_
   refine WL.nil ?_
   refine At.then ?_
   refine WC.seq ?_
   refine WC.seq ?_
   refine WC.region ?_
   refine WL.y (Y.assign rfl) rfl ?_
   refine WL.nil ?_
   refine At.then ?_
   refine WC.block ?_
   obtain ⟨p441, h, hk443⟩ := flow1 h
   obtain ⟨k442, h⟩ := loop_some h
   refine WC.joinB 2 (σ := (List Int × Own × Value)) (fun x w' => p441 = .go x.1 ∧ Stp [16, 1003] O423 wd421 x.2.1 w' ∧ OwnSl 1004 Rep.i 3 x.2.1 w' x.2.2 x.1) (fun x => [(10, x.2.2)]) ?_ ?_
   ·have hf444 := ho407.st hst426 rfl rfl rfl
    obtain ⟨O445, hst446, ho447⟩ := OwnSl.rlb 1003 rfl hf444
    refine WC.loop (σ := (List Int × Int × Own × Value)) (fun x k w' => loopN k (ref10_Put_lp2 r416) (x.1, x.2.1) = some p441 ∧ Stp [16, 1003] O423 wd421 x.2.2.1 w' ∧ OwnSl 1003 Rep.i 3 x.2.2.1 w' x.2.2.2 x.1) (fun x => [(10, x.2.2.2), (11, vr422), (12, vi x.2.1)]) (xs401, 0, O445, v406) k442 (.cons rfl (.cons rfl (.cons rfl .nil))) ⟨h, (Stp.up hst446 rfl), ho447⟩ ?_
    rintro ⟨out428, i431, O432, v429⟩ k442 wd433 ⟨h, hst434, hf430⟩
    obtain ⟨j448, q449, rfl, h, hn450⟩ := rnd1 h
    unfold ref10_Put_lp2 at h
    try dsimp only at h hst434 hf430
    refine (show WC _ _ _ _ [(10, v429), (11, vr422), (12, vi i431)] _ from ?_)
    refine WC.seq ?_
    refine WC.seq ?_
    refine WC.region ?_
    refine WL.y (Y.move rfl) rfl ?_
    refine WL.y (Y.move rfl) rfl ?_
    have hf451 := hf427.st hst434 rfl rfl rfl
    refine WL.y (Y.len ty23 rfl hf451.src.sl) rfl ?_
    refine WL.y (Y.lss_i rfl rfl) rfl ?_
    refine WL.nil ?_
    refine At.then ?_
    rcases cnd h with ⟨hc452, h⟩ | ⟨hc452, h⟩
    ·refine WC.condT' rfl hc452 ?_
     refine WC.skip ?_
     refine At.then ?_
     refine WC.seq ?_
     refine WC.block ?_
     refine WC.region ?_
     refine WL.y (Y.move rfl) rfl ?_
     refine WL.y (Y.move rfl) rfl ?_
     refine WL.y (Y.move rfl) rfl ?_
     obtain ⟨e453, he453, h⟩ := bnd h
     obtain ⟨b454, cap461, cs460, hv455, hi456, hl457, hc458, hok459⟩ := OwnSl.at hf451 he453
     obtain rfl := hok459
     replace hc458 : CellsAt _ _ _ [vu e453] := hc458
     have hca462 := CAt.own hf451 hv455 hc458
     refine WL.y (Y.indexAddr ty23 ty22 rfl hv455 rfl hi456 hl457) rfl ?_
     refine WL.y (Y.loadSc ty22 rfl rfl hca462.at_) rfl ?_
     obtain ⟨r463, hp464, h⟩ := bnd h
     refine WL.call (vals := [vu e453]) kok89 rfl rfl (c_ref06_Small hp464) ?_
     rintro vr469 wd468 ⟨_, rfl, hm467, f466⟩
     obtain ⟨O470, hold471, hnew472, hst473⟩ := adoptE O432 (fun k => if Value.ownBlock vr469 = some k then 21 else 1) hm467
     have hf474 : OwnSl 21 Rep.i 3 O470 wd468 vr469 r463 := RowF.adopt 21 Flat.i f466 hnew472 (fun k hk => if_pos hk)
     obtain ⟨xs475, hxs475, h⟩ := bnd h
     have hf476 := hf430.st hst473 rfl rfl rfl
     refine WL.append (by decide) ty64 ty3 rfl (by decide) rfl rfl hf476 hf474.src hxs475 rfl ?_
     intro v480 O477 wd478 hst479 ho481
     refine WL.y (Y.assign rfl) rfl ?_
     refine WL.nil ?_
     refine At.inBlock ?_
     refine At.then ?_
     refine WC.region ?_
     refine WL.y (Y.move rfl) rfl ?_
     refine WL.y (Y.add_i rfl rfl) rfl ?_
     obtain ⟨i482, hi482, h⟩ := lt1 h
     refine WL.yE (Y.assign rfl) (congrArg vi hi482.symm) rfl ?_
     refine WL.nil ?_
     exact At.round (xs475, i482, O477, v480) j448 (Nat.lt_succ_self _) ⟨next1 h hn450, (Stp.trans (Stp.up hst434 rfl) (Stp.trans (Stp.up hst473 rfl) (Stp.up hst479 rfl))), ho481⟩ (.cons rfl (.cons rfl (.cons rfl .nil)))
    ·refine WC.condF' rfl hc452 ?_
     refine WC.exit ?_
     refine At.thenX ?_
     refine At.loopX ?_
     obtain ⟨O483, hst484, ho485⟩ := OwnSl.rlb 1004 rfl hf430
     exact At.hitB (σ := (List Int × Own × Value)) (out428, O483, v429) ⟨brk1 h hn450, (Stp.trans (Stp.up hst434 rfl) (Stp.up hst484 rfl)), ho485⟩ (.cons rfl .nil)
   ·rintro ⟨out435, O438, v436⟩ wd439 ⟨rfl, hst440, hf437⟩
    replace h := flowK_go hk443
    try dsimp only at h hst440 hf437
    refine (show At _ _ _ [(10, v436)] _ from ?_)
    refine At.inBlockHit ?_
    refine At.then ?_
    refine WC.seq ?_
    refine WC.region ?_
    refine WL.y (Y.move rfl) rfl ?_
    refine WL.y (Y.assign rfl) rfl ?_
    refine WL.nil ?_
    refine At.then ?_
    refine WC.ret ?_
    obtain rfl := some1 h
    have hs486 : Stp [16, 1003] (Lg.O0 A) w O438 wd439 := (Stp.trans (Stp.up hst26 rfl) (Stp.trans (Stp.up hst30 rfl) (Stp.trans (Stp.up hst43 rfl) (Stp.trans (Stp.up hst329 rfl) (Stp.trans (Stp.up hst343 rfl) (Stp.trans (Stp.up hst349 rfl) (Stp.trans (Stp.up hst370 rfl) (Stp.trans (Stp.up hst376 rfl) (Stp.trans (Stp.up hst399 rfl) (Stp.trans (Stp.up hst405 rfl) (Stp.trans (Stp.up hst426 rfl) (Stp.up hst440 rfl))))))))))))
    exact At.res (.inl rfl) rfl (.tmp rfl .nil) ⟨v436, rfl, (Stp.ext hs486 rfl rfl), (OwnSl.outF hf437 hs486 low0 rfl)⟩
theorem c_law10_HistbitsRows {A : Nat → Prop} {a0 : List api_Hist} {v0 : Value} {v1_3 : Value} {v1_5 : Value} {a1 : api_Hist} {w : World} (hs0 : Sl rep_api_Hist w A v0 a0) (hs1_3 : Sl Rep.u w A v1_3 a1.Pos.Counts) (hs1_5 : Sl Rep.u w A v1_5 a1.Neg.Counts) {r0 : Bool} (h : law10_HistbitsRows a0 a1 = some r0) : Rets Try.prog 14 [v0, Value.agg (List.toArray [vi a1.Scale, vu a1.Zero, vi a1.Pos.Offset, v1_3, vi a1.Neg.Offset, v1_5])] w (fun v w' => v = Value.bool r0 ∧ Ext w w') := by
 unfold law10_HistbitsRows at h
 refine Rets.enter Try.func14 rfl rfl ?_
 have hf11 : Sl rep_api_Hist w (imm (Lg.O0 A)) v0 a0 := (Sl.start hs0)
 have hf12 : Sl Rep.u w (imm (Lg.O0 A)) v1_3 a1.Pos.Counts := (Sl.start hs1_3)
 have hf13 : Sl Rep.u w (imm (Lg.O0 A)) v1_5 a1.Neg.Counts := (Sl.start hs1_5)
 refine (show WC _ _ _ _ [(0, v0), (1, Value.agg (List.toArray [vi a1.Scale, vu a1.Zero, vi a1.Pos.Offset, v1_3, vi a1.Neg.Offset, v1_5]))] _ from ?_)
 refine WC.seq ?_
 refine WC.region ?_
 have hh17 := h
 obtain ⟨p14, m15, c16, rfl⟩ := hf12.shape
 have h := hh17
 have hh21 := h
 obtain ⟨p18, m19, c20, rfl⟩ := hf13.shape
 have h := hh21
 refine WL.box (O := (Lg.O0 A)) 11 [vi a1.Scale, vu a1.Zero, vi a1.Pos.Offset, (Value.slice p14 m15 c16), vi a1.Neg.Offset, (Value.slice p18 m19 c20)] rfl rfl rfl ?_
 intro p23 O24 wd25 hst26 hb22
 refine WL.y (Y.assign rfl) rfl ?_
 refine WL.nil ?_
 refine At.then ?_
 refine WC.seq ?_
 refine WC.seq ?_
 refine WC.region ?_
 obtain ⟨r27, hp28, h⟩ := bnd h
 refine WL.call (vals := []) kok30 rfl rfl (c_law10_awake hp28) ?_
 rintro vr31 wd30 ⟨rfl, hm29⟩
 obtain ⟨O32, hold33, hnew34, hst35⟩ := adoptE O24 (fun k => 1) hm29
 refine WL.y (Y.not rfl) rfl ?_
 refine WL.nil ?_
 refine At.then ?_
 rcases cnd h with ⟨hc36, h⟩ | ⟨hc36, h⟩
 ·refine WC.condT' rfl hc36 ?_
  refine WC.seq ?_
  refine WC.region ?_
  refine WL.y (Y.assign rfl) rfl ?_
  refine WL.nil ?_
  refine At.then ?_
  refine WC.ret ?_
  refine At.thenR ?_
  obtain rfl := some1 h
  have hs37 : Stp [] (Lg.O0 A) w O32 wd30 := (Stp.trans (Stp.up hst26 rfl) (Stp.up hst35 rfl))
  exact At.res (.inl rfl) rfl (.tmp rfl .nil) ⟨rfl, (Stp.ext hs37 rfl rfl)⟩
 ·refine WC.condF' rfl hc36 ?_
  refine WC.skip ?_
  refine At.then ?_
  refine WC.seq ?_
  refine WC.seq ?_
  refine WC.region ?_
  refine WL.y (Y.move rfl) rfl ?_
  have hf38 := hf11.mono (imm_st hst26 rfl rfl)
  have hf39 := hf38.mono (imm_st hst35 rfl rfl)
  obtain ⟨r40, hp41, h⟩ := bnd h
  refine WL.call (vals := [v0]) kok31 rfl rfl (c_law10_some (A := fun _ => True) (Sl.all hf39) hp41) ?_
  rintro vr44 wd43 ⟨rfl, hm42⟩
  obtain ⟨O45, hold46, hnew47, hst48⟩ := adoptE O32 (fun k => 1) hm42
  refine WL.y (Y.not rfl) rfl ?_
  refine WL.y (Y.move rfl) rfl ?_
  obtain ⟨p53, h, hk54⟩ := bnd h
  refine WL.cut 4 (σ := (Bool × Own)) (fun x w' => x.1 = p53 ∧ Stp [] O45 wd43 x.2 w') (fun x => [(0, v0), (3, Value.pointer (some ⟨p23, 0, none⟩)), (27, Value.bool x.1)]) ?_ ?_
  ·rcases cnd h with ⟨hE55, h⟩ | ⟨hE55, h⟩
   ·refine WL.ren 23 rfl (congrArg Value.bool hE55) ?_
    refine WL.gS rfl rfl rfl rfl ?_
    refine WL.gS rfl rfl rfl rfl ?_
    refine WL.gS rfl rfl rfl rfl ?_
    refine WL.y (Y.pick (b := true) rfl rfl) rfl ?_
    exact WL.nil (At.join (σ := (Bool × Own)) (true, O45) ⟨some1 h, (Stp.refl _ _ _)⟩ (.cons rfl (.cons rfl (.cons rfl .nil))))
   ·refine WL.ren 23 rfl (congrArg Value.bool hE55) ?_
    refine WL.ung rfl rfl ?_
    have hf56 := hb22.st hst35 rfl
    have hf57 := hf56.st hst48 rfl
    refine WL.y (Y.loadAg ty27 rfl rfl (hf57.cells 0 [vi a1.Scale, vu a1.Zero, vi a1.Pos.Offset, (Value.slice p14 m15 c16), vi a1.Neg.Offset, (Value.slice p18 m19 c20)] rfl) rfl) rfl ?_
    refine WL.ung rfl rfl ?_
    have hf58 := hf12.mono (imm_st hst26 rfl rfl)
    have hf59 := hf58.mono (imm_st hst35 rfl rfl)
    have hf60 := hf59.mono (imm_st hst48 rfl rfl)
    have hf61 := hf13.mono (imm_st hst26 rfl rfl)
    have hf62 := hf61.mono (imm_st hst35 rfl rfl)
    have hf63 := hf62.mono (imm_st hst48 rfl rfl)
    obtain ⟨r64, hp65, h⟩ := bnd h
    refine WL.call (vals := [Value.agg (List.toArray [vi a1.Scale, vu a1.Zero, vi a1.Pos.Offset, (Value.slice p14 m15 c16), vi a1.Neg.Offset, (Value.slice p18 m19 c20)])]) kok16 rfl rfl (c_ref08_Light (A := fun _ => True) (a0 := a1) (Sl.all hf60) (Sl.all hf63) hp65) ?_
    rintro vr68 wd67 ⟨rfl, hm66⟩
    obtain ⟨O69, hold70, hnew71, hst72⟩ := adoptE O45 (fun k => 1) hm66
    refine WL.ung rfl rfl ?_
    refine WL.y (Y.not rfl) rfl ?_
    refine WL.y (Y.pick (b := false) rfl rfl) rfl ?_
    exact WL.nil (At.join (σ := (Bool × Own)) ((!r64), O69) ⟨some1 h, (Stp.up hst72 rfl)⟩ (.cons rfl (.cons rfl (.cons rfl .nil))))
  ·rintro ⟨x49, O50⟩ wd51 ⟨rfl, hst52⟩
   replace h := hk54
   try dsimp only at h hst52
   refine (show WL _ _ _ _ _ [(0, v0), (3, Value.pointer (some ⟨p23, 0, none⟩)), (27, Value.bool x49)] _ from ?_)
   refine WL.nil ?_
   refine At.then ?_
   rcases cnd h with ⟨hc73, h⟩ | ⟨hc73, h⟩
   ·refine WC.condT' rfl hc73 ?_
    refine WC.seq ?_
    refine WC.region ?_
    refine WL.y (Y.assign rfl) rfl ?_
    refine WL.nil ?_
    refine At.then ?_
    refine WC.ret ?_
    refine At.thenR ?_
    obtain rfl := some1 h
    have hs74 : Stp [] (Lg.O0 A) w O50 wd51 := (Stp.trans (Stp.up hst26 rfl) (Stp.trans (Stp.up hst35 rfl) (Stp.trans (Stp.up hst48 rfl) (Stp.up hst52 rfl))))
    exact At.res (.inl rfl) rfl (.tmp rfl .nil) ⟨rfl, (Stp.ext hs74 rfl rfl)⟩
   ·refine WC.condF' rfl hc73 ?_
    refine WC.skip ?_
    refine At.then ?_
    refine WC.seq ?_
    refine WC.region ?_
    obtain ⟨r75, hp76, h⟩ := bnd h
    refine WL.call (vals := []) kok32 rfl rfl (c_bitio_NewWriter hp76) ?_
    rintro vr84 wd83 ⟨p77, u78, rfl, hm82, f79, f80, f81⟩
    obtain ⟨O85, hold86, hnew87, hst88⟩ := adoptE O50 (fun k => if k = p77 then 12 else if Value.ownBlock u78 = some k then 13 else 1) hm82
    have hf90 : OwnSl 13 Rep.b 5 O85 wd83 u78 r75.b := RowF.adopt 13 Flat.b f80 hnew87 (fun k hk => (if_neg (fun (e : k = p77) => f81 (e ▸ hk))).trans (if_pos hk))
    have hb89 : Blk 12 O85 wd83 p77 86 [u78, vi r75.n] := Blk.new f79 hnew87 (if_pos rfl)
    refine WL.y (Y.assign rfl) rfl ?_
    refine WL.nil ?_
    refine At.then ?_
    refine WC.seq ?_
    refine WC.region ?_
    obtain ⟨r91, hp92, h⟩ := bnd h
    refine WL.call (vals := []) kok33 rfl rfl (c_histbits_NewRow hp92) ?_
    rintro vr104 wd103 ⟨p93, u94, u95, rfl, hm102, f96, f97, f98, f99, f100, f101⟩
    obtain ⟨O105, hold106, hnew107, hst108⟩ := adoptE O85 (fun k => if k = p93 then 14 else if Value.ownBlock u94 = some k then 15 else if Value.ownBlock u95 = some k then 16 else 1) hm102
    have hf110 : OwnSl 15 Rep.u 22 O105 wd103 u94 r91.last.Pos.Counts := RowF.adopt 15 Flat.u f97 hnew107 (fun k hk => (if_neg (fun (e : k = p93) => f99 (e ▸ hk))).trans (if_pos hk))
    have hf111 : OwnSl 16 Rep.u 22 O105 wd103 u95 r91.last.Neg.Counts := RowF.adopt 16 Flat.u f98 hnew107 (fun k hk => (if_neg (fun (e : k = p93) => f100 (e ▸ hk))).trans ((if_neg (fun (e : Value.ownBlock u94 = some k) => f101 k e hk)).trans (if_pos hk)))
    have hb109 : Blk 14 O105 wd103 p93 88 [vi r91.n, vi r91.last.Scale, vu r91.last.Zero, vi r91.last.Pos.Offset, u94, vi r91.last.Neg.Offset, u95] := Blk.new f96 hnew107 (if_pos rfl)
    refine WL.y (Y.assign rfl) rfl ?_
    refine WL.nil ?_
    refine At.then ?_
    refine WC.seq ?_
    refine WC.region ?_
    refine WL.y (Y.assign rfl) rfl ?_
    refine WL.nil ?_
    refine At.then ?_
    refine WC.seq ?_
    refine WC.region ?_
    refine WL.y (Y.assign rfl) rfl ?_
    refine WL.nil ?_
    refine At.then ?_
    refine WC.seq ?_
    refine WC.seq ?_
    refine WC.region ?_
    refine WL.y (Y.assign rfl) rfl ?_
    refine WL.nil ?_
    refine At.then ?_
    obtain ⟨p126, h, hk127⟩ := flow1 h
    refine WC.join (σ := (List UInt8 × Int × List Int × List api_Hist × Own × Value × Value × Value)) (fun x w' => p126 = .go (x.1, x.2.1, x.2.2.1, x.2.2.2.1) ∧ Stp [12, 13, 14, 15, 16, 17, 18, 19, 20, 21, 23, 25, 1003, 1004, 1012, 1013, 1014, 1015, 1016, 1030, 1031, 1032, 1033, 1034, 1068, 1069, 1070] O105 wd103 x.2.2.2.2.1 w' ∧ OwnSl 1151 Rep.b 5 x.2.2.2.2.1 w' x.2.2.2.2.2.1 x.1 ∧ Blk 12 x.2.2.2.2.1 w' p77 86 [x.2.2.2.2.2.1, vi x.2.1] ∧ OwnSl 1152 Rep.i 3 x.2.2.2.2.1 w' x.2.2.2.2.2.2.1 x.2.2.1 ∧ OwnSl 1153 rep_api_Hist 27 x.2.2.2.2.1 w' x.2.2.2.2.2.2.2 x.2.2.2.1) (fun x => [(5, Value.pointer (some ⟨p77, 0, none⟩)), (7, x.2.2.2.2.2.2.1), (8, x.2.2.2.2.2.2.2)]) ?_ ?_
    ·refine WC.block ?_
     obtain ⟨p169, h, hk171⟩ := flow1 h
     obtain ⟨k170, h⟩ := loop_some h
     refine WC.joinB 0 (σ := (List UInt8 × Int × List Int × List api_Hist × Own × Value × Value × Value)) (fun x w' => p169 = .go (x.1, x.2.1, x.2.2.1, x.2.2.2.1) ∧ Stp [12, 13, 14, 15, 16, 17, 18, 19, 20, 21, 23, 25, 1003, 1004, 1012, 1013, 1014, 1015, 1016, 1030, 1031, 1032, 1033, 1034] O105 wd103 x.2.2.2.2.1 w' ∧ OwnSl 1068 Rep.b 5 x.2.2.2.2.1 w' x.2.2.2.2.2.1 x.1 ∧ Blk 12 x.2.2.2.2.1 w' p77 86 [x.2.2.2.2.2.1, vi x.2.1] ∧ OwnSl 1069 Rep.i 3 x.2.2.2.2.1 w' x.2.2.2.2.2.2.1 x.2.2.1 ∧ OwnSl 1070 rep_api_Hist 27 x.2.2.2.2.1 w' x.2.2.2.2.2.2.2 x.2.2.2.1) (fun x => [(5, Value.pointer (some ⟨p77, 0, none⟩)), (7, x.2.2.2.2.2.2.1), (8, x.2.2.2.2.2.2.2)]) ?_ ?_
     ·have hf172 := hf90.st hst108 rfl rfl rfl
      obtain ⟨O173, hst174, ho175⟩ := OwnSl.rlb 1030 rfl hf172
      have hf176 := hf110.st hst174 rfl rfl rfl
      obtain ⟨O177, hst178, ho179⟩ := OwnSl.rlb 1031 rfl hf176
      have hf180 := hf111.st hst174 rfl rfl rfl
      have hf181 := hf180.st hst178 rfl rfl rfl
      obtain ⟨O182, hst183, ho184⟩ := OwnSl.rlb 1032 rfl hf181
      have hf185 := ho175.st hst178 rfl rfl rfl
      have hf186 := hf185.st hst183 rfl rfl rfl
      have hf187 := hb89.st hst108 rfl
      have hf188 := hf187.st hst174 rfl
      have hf189 := hf188.st hst178 rfl
      have hf190 := hf189.st hst183 rfl
      have hf191 := ho179.st hst183 rfl rfl rfl
      have hf192 := hb109.st hst174 rfl
      have hf193 := hf192.st hst178 rfl
      have hf194 := hf193.st hst183 rfl
      refine WC.loop (σ := (List UInt8 × Int × Int × Int × UInt64 × Int × List UInt64 × Int × List UInt64 × List Int × List api_Hist × Int × Own × Value × Value × Value × Value × Value)) (fun x k w' => loopN k (law10_HistbitsRows_lp1 a0 a1) (x.1, x.2.1, x.2.2.1, x.2.2.2.1, x.2.2.2.2.1, x.2.2.2.2.2.1, x.2.2.2.2.2.2.1, x.2.2.2.2.2.2.2.1, x.2.2.2.2.2.2.2.2.1, x.2.2.2.2.2.2.2.2.2.1, x.2.2.2.2.2.2.2.2.2.2.1, x.2.2.2.2.2.2.2.2.2.2.2.1) = some p169 ∧ Stp [12, 13, 14, 15, 16, 17, 18, 19, 20, 21, 23, 25, 1003, 1004, 1012, 1013, 1014, 1015, 1016, 1030, 1031, 1032, 1033, 1034] O105 wd103 x.2.2.2.2.2.2.2.2.2.2.2.2.1 w' ∧ OwnSl 1030 Rep.b 5 x.2.2.2.2.2.2.2.2.2.2.2.2.1 w' x.2.2.2.2.2.2.2.2.2.2.2.2.2.1 x.1 ∧ Blk 12 x.2.2.2.2.2.2.2.2.2.2.2.2.1 w' p77 86 [x.2.2.2.2.2.2.2.2.2.2.2.2.2.1, vi x.2.1] ∧ OwnSl 1031 Rep.u 22 x.2.2.2.2.2.2.2.2.2.2.2.2.1 w' x.2.2.2.2.2.2.2.2.2.2.2.2.2.2.1 x.2.2.2.2.2.2.1 ∧ OwnSl 1032 Rep.u 22 x.2.2.2.2.2.2.2.2.2.2.2.2.1 w' x.2.2.2.2.2.2.2.2.2.2.2.2.2.2.2.1 x.2.2.2.2.2.2.2.2.1 ∧ Blk 14 x.2.2.2.2.2.2.2.2.2.2.2.2.1 w' p93 88 [vi x.2.2.1, vi x.2.2.2.1, vu x.2.2.2.2.1, vi x.2.2.2.2.2.1, x.2.2.2.2.2.2.2.2.2.2.2.2.2.2.1, vi x.2.2.2.2.2.2.2.1, x.2.2.2.2.2.2.2.2.2.2.2.2.2.2.2.1] ∧ OwnSl 1033 Rep.i 3 x.2.2.2.2.2.2.2.2.2.2.2.2.1 w' x.2.2.2.2.2.2.2.2.2.2.2.2.2.2.2.2.1 x.2.2.2.2.2.2.2.2.2.1 ∧ OwnSl 1034 rep_api_Hist 27 x.2.2.2.2.2.2.2.2.2.2.2.2.1 w' x.2.2.2.2.2.2.2.2.2.2.2.2.2.2.2.2.2 x.2.2.2.2.2.2.2.2.2.2.1) (fun x => [(0, v0), (3, Value.pointer (some ⟨p23, 0, none⟩)), (5, Value.pointer (some ⟨p77, 0, none⟩)), (6, Value.pointer (some ⟨p93, 0, none⟩)), (7, x.2.2.2.2.2.2.2.2.2.2.2.2.2.2.2.2.1), (8, x.2.2.2.2.2.2.2.2.2.2.2.2.2.2.2.2.2), (9, vi x.2.2.2.2.2.2.2.2.2.2.2.1)]) (r75.b, r75.n, r91.n, r91.last.Scale, r91.last.Zero, r91.last.Pos.Offset, r91.last.Pos.Counts, r91.last.Neg.Offset, r91.last.Neg.Counts, [], [], 0, O182, u78, u94, u95, Value.slice none 0 0, Value.slice none 0 0) k170 (.cons rfl (.cons rfl (.cons rfl (.cons rfl (.cons rfl (.cons rfl (.cons rfl .nil))))))) ⟨h, (Stp.trans (Stp.up hst174 rfl) (Stp.trans (Stp.up hst178 rfl) (Stp.up hst183 rfl))), hf186, hf190, hf191, ho184, hf194, (OwnSl.nil 1033 Rep.i 3), (OwnSl.nil 1034 rep_api_Hist 27)⟩ ?_
      rintro ⟨c129, c132, c134, c135, c136, c137, c138, c141, c142, bits145, row148, i151, O152, v130, v139, v143, v146, v149⟩ k170 wd153 ⟨h, hst154, hf131, hb128, hf140, hf144, hb133, hf147, hf150⟩
      obtain ⟨j195, q196, rfl, h, hn197⟩ := rnd1 h
      unfold law10_HistbitsRows_lp1 at h
      try dsimp only at h hst154 hf131 hb128 hf140 hf144 hb133 hf147 hf150
      refine (show WC _ _ _ _ [(0, v0), (3, Value.pointer (some ⟨p23, 0, none⟩)), (5, Value.pointer (some ⟨p77, 0, none⟩)), (6, Value.pointer (some ⟨p93, 0, none⟩)), (7, v146), (8, v149), (9, vi i151)] _ from ?_)
      refine WC.seq ?_
      refine WC.seq ?_
      refine WC.region ?_
      refine WL.y (Y.move rfl) rfl ?_
      refine WL.y (Y.move rfl) rfl ?_
      have hf198 := hf39.mono (imm_st hst48 rfl rfl)
      have hf199 := hf198.mono (imm_st hst52 rfl rfl)
      have hf200 := hf199.mono (imm_st hst88 rfl rfl)
      have hf201 := hf200.mono (imm_st hst108 rfl rfl)
      have hf202 := hf201.mono (imm_st hst154 rfl rfl)
      refine WL.y (Y.len ty45 rfl hf202) rfl ?_
      refine WL.y (Y.lss_i rfl rfl) rfl ?_
      refine WL.nil ?_
      refine At.then ?_
      rcases cnd h with ⟨hc203, h⟩ | ⟨hc203, h⟩
      ·refine WC.condT' rfl hc203 ?_
       refine WC.skip ?_
       refine At.then ?_
       refine WC.seq ?_
       obtain ⟨p230, h, hk231⟩ := flow1 h
       refine WC.join (σ := (List UInt8 × Int × Int × Int × UInt64 × Int × List UInt64 × Int × List UInt64 × List Int × List api_Hist × Own × Value × Value × Value × Value × Value)) (fun x w' => p230 = .go (x.1, x.2.1, x.2.2.1, x.2.2.2.1, x.2.2.2.2.1, x.2.2.2.2.2.1, x.2.2.2.2.2.2.1, x.2.2.2.2.2.2.2.1, x.2.2.2.2.2.2.2.2.1, x.2.2.2.2.2.2.2.2.2.1, x.2.2.2.2.2.2.2.2.2.2.1) ∧ Stp [12, 14, 17, 18, 19, 20, 21, 1003, 1004, 1030, 1031, 1032, 1033, 1034] O152 wd153 x.2.2.2.2.2.2.2.2.2.2.2.1 w' ∧ OwnSl 1012 Rep.b 5 x.2.2.2.2.2.2.2.2.2.2.2.1 w' x.2.2.2.2.2.2.2.2.2.2.2.2.1 x.1 ∧ Blk 12 x.2.2.2.2.2.2.2.2.2.2.2.1 w' p77 86 [x.2.2.2.2.2.2.2.2.2.2.2.2.1, vi x.2.1] ∧ OwnSl 1013 Rep.u 22 x.2.2.2.2.2.2.2.2.2.2.2.1 w' x.2.2.2.2.2.2.2.2.2.2.2.2.2.1 x.2.2.2.2.2.2.1 ∧ OwnSl 1014 Rep.u 22 x.2.2.2.2.2.2.2.2.2.2.2.1 w' x.2.2.2.2.2.2.2.2.2.2.2.2.2.2.1 x.2.2.2.2.2.2.2.2.1 ∧ Blk 14 x.2.2.2.2.2.2.2.2.2.2.2.1 w' p93 88 [vi x.2.2.1, vi x.2.2.2.1, vu x.2.2.2.2.1, vi x.2.2.2.2.2.1, x.2.2.2.2.2.2.2.2.2.2.2.2.2.1, vi x.2.2.2.2.2.2.2.1, x.2.2.2.2.2.2.2.2.2.2.2.2.2.2.1] ∧ OwnSl 1015 Rep.i 3 x.2.2.2.2.2.2.2.2.2.2.2.1 w' x.2.2.2.2.2.2.2.2.2.2.2.2.2.2.2.1 x.2.2.2.2.2.2.2.2.2.1 ∧ OwnSl 1016 rep_api_Hist 27 x.2.2.2.2.2.2.2.2.2.2.2.1 w' x.2.2.2.2.2.2.2.2.2.2.2.2.2.2.2.2 x.2.2.2.2.2.2.2.2.2.2.1) (fun x => [(0, v0), (3, Value.pointer (some ⟨p23, 0, none⟩)), (5, Value.pointer (some ⟨p77, 0, none⟩)), (6, Value.pointer (some ⟨p93, 0, none⟩)), (7, x.2.2.2.2.2.2.2.2.2.2.2.2.2.2.2.1), (8, x.2.2.2.2.2.2.2.2.2.2.2.2.2.2.2.2), (9, vi i151)]) ?_ ?_
       ·refine WC.block ?_
        refine WC.seq ?_
        refine WC.region ?_
        refine WL.y (Y.move rfl) rfl ?_
        obtain ⟨r232, hp233, h⟩ := bnd h
        refine WL.call (vals := [Value.pointer (some ⟨p93, 0, none⟩)]) kok54 rfl rfl (c_histbits_Row_Clone (A := fun _ => True) (a0 := (histbits_Row.mk c134 (api_Hist.mk c135 c136 (api_Side.mk c137 c138) (api_Side.mk c141 c142)))) (hf140.src.sl) (hf144.src.sl) hb133.blk trivial hp233) ?_
        rintro vr245 wd244 ⟨p234, u235, u236, rfl, hm243, f237, f238, f239, f240, f241, f242⟩
        obtain ⟨O246, hold247, hnew248, hst249⟩ := adoptE O152 (fun k => if k = p234 then 17 else if Value.ownBlock u235 = some k then 18 else if Value.ownBlock u236 = some k then 19 else 1) hm243
        have hf251 : OwnSl 18 Rep.u 22 O246 wd244 u235 r232.last.Pos.Counts := RowF.adopt 18 Flat.u f238 hnew248 (fun k hk => (if_neg (fun (e : k = p234) => f240 (e ▸ hk))).trans (if_pos hk))
        have hf252 : OwnSl 19 Rep.u 22 O246 wd244 u236 r232.last.Neg.Counts := RowF.adopt 19 Flat.u f239 hnew248 (fun k hk => (if_neg (fun (e : k = p234) => f241 (e ▸ hk))).trans ((if_neg (fun (e : Value.ownBlock u235 = some k) => f242 k e hk)).trans (if_pos hk)))
        have hb250 : Blk 17 O246 wd244 p234 88 [vi r232.n, vi r232.last.Scale, vu r232.last.Zero, vi r232.last.Pos.Offset, u235, vi r232.last.Neg.Offset, u236] := Blk.new f237 hnew248 (if_pos rfl)
        refine WL.y (Y.assign rfl) rfl ?_
        refine WL.nil ?_
        refine At.then ?_
        refine WC.seq ?_
        refine WC.drawH [] [0, 1, 2] O246 4 fmix rfl (by kernel_rfl) ?_
        intro wd253 hst254
        refine WD.y 0 rfl (by kernel_rfl) (fun _ _ _ => Y.move rfl) rfl ?_
        refine WD.y 2 rfl (by kernel_rfl) (fun wd259 O258 hst260 => have hf261 := hb22.st hst35 rfl; have hf262 := hf261.st hst48 rfl; have hf263 := hf262.st hst52 rfl; have hf264 := hf263.st hst88 rfl; have hf265 := hf264.st hst108 rfl; have hf266 := hf265.st hst154 rfl; have hf267 := hf266.st hst249 rfl; have hf268 := hf267.st hst254 rfl; have hf269 := hf268.st hst260 rfl; Y.loadAg ty27 rfl rfl (hf269.cells 0 [vi a1.Scale, vu a1.Zero, vi a1.Pos.Offset, (Value.slice p14 m15 c16), vi a1.Neg.Offset, (Value.slice p18 m19 c20)] rfl) rfl) rfl ?_
        refine WD.heavy 1 rfl (by kernel_rfl) ?_
        obtain ⟨r270, hp271, h⟩ := bnd h
        refine WL.call (vals := []) kok32 rfl rfl (c_bitio_NewWriter hp271) ?_
        rintro vr279 wd278 ⟨p272, u273, rfl, hm277, f274, f275, f276⟩
        obtain ⟨O280, hold281, hnew282, hst283⟩ := adoptE O246 (fun k => if k = p272 then 20 else if Value.ownBlock u273 = some k then 21 else 1) hm277
        have hf285 : OwnSl 21 Rep.b 5 O280 wd278 u273 r270.b := RowF.adopt 21 Flat.b f275 hnew282 (fun k hk => (if_neg (fun (e : k = p272) => f276 (e ▸ hk))).trans (if_pos hk))
        have hb284 : Blk 20 O280 wd278 p272 86 [u273, vi r270.n] := Blk.new f274 hnew282 (if_pos rfl)
        refine WL.nil ?_
        refine At.dq (Stp.up hst283 rfl) ?_
        refine WD.phase [17, 18, 19, 20, 21] [0, 1, 2, 3] (by kernel_rfl) (by kernel_rfl) ?_
        refine WD.heavy 3 rfl (by kernel_rfl) ?_
        have hf286 := hf251.st hst254 rfl rfl rfl
        have hf287 := hf286.st hst283 rfl rfl rfl
        have hf288 := hf252.st hst254 rfl rfl rfl
        have hf289 := hf288.st hst283 rfl rfl rfl
        have hf290 := hb250.st hst254 rfl
        have hf291 := hf290.st hst283 rfl
        have hf292 := hf12.mono (imm_st hst26 rfl rfl)
        have hf293 := hf292.mono (imm_st hst35 rfl rfl)
        have hf294 := hf293.mono (imm_st hst48 rfl rfl)
        have hf295 := hf294.mono (imm_st hst52 rfl rfl)
        have hf296 := hf295.mono (imm_st hst88 rfl rfl)
        have hf297 := hf296.mono (imm_st hst108 rfl rfl)
        have hf298 := hf297.mono (imm_st hst154 rfl rfl)
        have hf299 := hf298.mono (imm_st hst249 rfl rfl)
        have hf300 := hf299.mono (imm_st hst254 rfl rfl)
        have hf301 := hf300.mono (imm_st hst283 rfl rfl)
        have hf302 := hf13.mono (imm_st hst26 rfl rfl)
        have hf303 := hf302.mono (imm_st hst35 rfl rfl)
        have hf304 := hf303.mono (imm_st hst48 rfl rfl)
        have hf305 := hf304.mono (imm_st hst52 rfl rfl)
        have hf306 := hf305.mono (imm_st hst88 rfl rfl)
        have hf307 := hf306.mono (imm_st hst108 rfl rfl)
        have hf308 := hf307.mono (imm_st hst154 rfl rfl)
        have hf309 := hf308.mono (imm_st hst249 rfl rfl)
        have hf310 := hf309.mono (imm_st hst254 rfl rfl)
        have hf311 := hf310.mono (imm_st hst283 rfl rfl)
        obtain ⟨⟨r312, r313, r314⟩, hp315, h⟩ := bnd h
        refine WL.call (vals := [Value.pointer (some ⟨p234, 0, none⟩), Value.pointer (some ⟨p272, 0, none⟩), Value.agg (List.toArray [vi a1.Scale, vu a1.Zero, vi a1.Pos.Offset, (Value.slice p14 m15 c16), vi a1.Neg.Offset, (Value.slice p18 m19 c20)])]) kok34 rfl rfl (c_histbits_Row_Put (A := out [17, 18, 19, 20, 21] O280) (a0 := r232) (a1 := r270) (a2 := a1) hf287.row hf289.row hf291.blk hf285.row hb284.blk (Sl.notin (L := [17, 18, 19, 20, 21]) hf301 rfl rfl) (Sl.notin (L := [17, 18, 19, 20, 21]) hf311 rfl rfl) (ne_lab hf287 hf291.lab rfl) (ne_lab hf289 hf291.lab rfl) (ne_blk hf291.lab hb284.lab rfl) (ne_lab hf285 hf291.lab rfl) (ne_own hf287 hf289 rfl) (ne_lab hf287 hb284.lab rfl) (ne_own hf287 hf285 rfl) (ne_lab hf289 hb284.lab rfl) (ne_own hf289 hf285 rfl) (ne_lab hf285 hb284.lab rfl) (fun k hk => ⟨out_ne hf291.lab rfl k hk, out_neV (w := wd278) hf287.labs rfl k hk, out_neV (w := wd278) hf289.labs rfl k hk, out_ne hb284.lab rfl k hk, out_neV (w := wd278) hf285.labs rfl k hk⟩) hp315) ?_
        rintro vr329 wd328 ⟨z316, z317, z318, rfl, hm327, f319, f320, f321, f322, f323, f324, f325, f326⟩
        obtain ⟨O330, hold331, hnew332, hst333⟩ := adopt O280 (fun k => if Value.ownBlock z316 = some k then 18 else if Value.ownBlock z317 = some k then 19 else if Value.ownBlock z318 = some k then 21 else 1) [17, 18, 19, 20, 21] hm327 (memOr (memB hf291.lab rfl) (memOr (memV hf287.labs rfl) (memOr (memV hf289.labs rfl) (memOr (memB hb284.lab rfl) (memV hf285.labs rfl)))))
        have ho334 : OwnSl 18 Rep.u 22 O330 wd328 z316 r313.last.Pos.Counts := RowG.adopt Flat.u hf287.labs f319 hold331 hnew332 (fun k hk => if_pos hk)
        have ho335 : OwnSl 19 Rep.u 22 O330 wd328 z317 r313.last.Neg.Counts := RowG.adopt Flat.u hf289.labs f320 hold331 hnew332 (fun k hk => (if_neg (fun (e : Value.ownBlock z316 = some k) => f324 k e hk)).trans (if_pos hk))
        have hb336 : Blk 17 O330 wd328 p234 88 [vi r313.n, vi r313.last.Scale, vu r313.last.Zero, vi r313.last.Pos.Offset, z316, vi r313.last.Neg.Offset, z317] := Blk.adopt hf291 hold331 f321
        have ho337 : OwnSl 21 Rep.b 5 O330 wd328 z318 r314.b := RowG.adopt Flat.b hf285.labs f322 hold331 hnew332 (fun k hk => (if_neg (fun (e : Value.ownBlock z316 = some k) => f325 k e hk)).trans ((if_neg (fun (e : Value.ownBlock z317 = some k) => f326 k e hk)).trans (if_pos hk)))
        have hb338 : Blk 20 O330 wd328 p272 86 [z318, vi r314.n] := Blk.adopt hb284 hold331 f323
        refine WL.nil ?_
        refine At.dq (Stp.up hst333 rfl) ?_
        refine WD.done_ (by kernel_rfl) ?_
        refine At.then ?_
        refine WC.seq ?_
        refine WC.region ?_
        refine WL.y (Y.move rfl) rfl ?_
        refine WL.y (Y.move rfl) rfl ?_
        refine WL.y (Y.move rfl) rfl ?_
        refine WL.y (Y.move rfl) rfl ?_
        obtain ⟨e339, he339, h⟩ := bnd h
        have hf348 := hf202.mono (imm_st hst249 rfl rfl)
        have hf349 := hf348.mono (imm_st hst254 rfl rfl)
        have hf350 := hf349.mono (imm_st hst283 rfl rfl)
        have hf351 := hf350.mono (imm_st hst333 rfl rfl)
        obtain ⟨b340, off356, cap347, cs346, hv341, hi342, hl343, hc344, hok345, hA357⟩ := Sl.at2 hf351 he339
        obtain ⟨_, _, rfl, rfl, ⟨_, _, rfl, rfl, ⟨_, _, rfl, ⟨_, _, rfl, rfl, ⟨v352, rfl, hf353⟩⟩, ⟨_, _, rfl, rfl, ⟨v354, rfl, hf355⟩⟩⟩⟩⟩ := hok345
        replace hc344 : CellsAt _ _ _ [vi e339.Scale, vu e339.Zero, vi e339.Pos.Offset, v352, vi e339.Neg.Offset, v354] := hc344
        have hca358 := CAt.imm hc344 hA357
        refine WL.y (Y.indexAddr ty45 ty27 rfl hv341 rfl hi342 hl343) rfl ?_
        refine WL.y (Y.loadAg ty27 rfl rfl hca358.at_ rfl) rfl ?_
        have hf359 := hf140.st hst249 rfl rfl rfl
        have hf360 := hf359.st hst254 rfl rfl rfl
        have hf361 := hf360.st hst283 rfl rfl rfl
        have hf362 := hf361.st hst333 rfl rfl rfl
        have hf363 := hf144.st hst249 rfl rfl rfl
        have hf364 := hf363.st hst254 rfl rfl rfl
        have hf365 := hf364.st hst283 rfl rfl rfl
        have hf366 := hf365.st hst333 rfl rfl rfl
        have hf367 := hf131.st hst249 rfl rfl rfl
        have hf368 := hf367.st hst254 rfl rfl rfl
        have hf369 := hf368.st hst283 rfl rfl rfl
        have hf370 := hf369.st hst333 rfl rfl rfl
        have hf371 := hb133.st hst249 rfl
        have hf372 := hf371.st hst254 rfl
        have hf373 := hf372.st hst283 rfl
        have hf374 := hf373.st hst333 rfl
        have hf375 := hb128.st hst249 rfl
        have hf376 := hf375.st hst254 rfl
        have hf377 := hf376.st hst283 rfl
        have hf378 := hf377.st hst333 rfl
        obtain ⟨⟨r379, r380, r381⟩, hp382, h⟩ := bnd h
        refine WL.call (vals := [Value.pointer (some ⟨p93, 0, none⟩), Value.pointer (some ⟨p77, 0, none⟩), Value.agg (List.toArray [vi e339.Scale, vu e339.Zero, vi e339.Pos.Offset, v352, vi e339.Neg.Offset, v354])]) kok34 rfl rfl (c_histbits_Row_Put (A := out [14, 1031, 1032, 12, 1030] O330) (a0 := (histbits_Row.mk c134 (api_Hist.mk c135 c136 (api_Side.mk c137 c138) (api_Side.mk c141 c142)))) (a1 := (bitio_Writer.mk c129 c132)) (a2 := e339) hf362.row hf366.row hf374.blk hf370.row hf378.blk (Sl.notin (L := [14, 1031, 1032, 12, 1030]) hf353 rfl rfl) (Sl.notin (L := [14, 1031, 1032, 12, 1030]) hf355 rfl rfl) (ne_lab hf362 hf374.lab rfl) (ne_lab hf366 hf374.lab rfl) (ne_blk hf374.lab hf378.lab rfl) (ne_lab hf370 hf374.lab rfl) (ne_own hf362 hf366 rfl) (ne_lab hf362 hf378.lab rfl) (ne_own hf362 hf370 rfl) (ne_lab hf366 hf378.lab rfl) (ne_own hf366 hf370 rfl) (ne_lab hf370 hf378.lab rfl) (fun k hk => ⟨out_ne hf374.lab rfl k hk, out_neV (w := wd328) hf362.labs rfl k hk, out_neV (w := wd328) hf366.labs rfl k hk, out_ne hf378.lab rfl k hk, out_neV (w := wd328) hf370.labs rfl k hk⟩) hp382) ?_
        rintro vr396 wd395 ⟨z383, z384, z385, rfl, hm394, f386, f387, f388, f389, f390, f391, f392, f393⟩
        obtain ⟨O397, hold398, hnew399, hst400⟩ := adopt O330 (fun k => if Value.ownBlock z383 = some k then 1031 else if Value.ownBlock z384 = some k then 1032 else if Value.ownBlock z385 = some k then 1030 else 1) [14, 1031, 1032, 12, 1030] hm394 (memOr (memB hf374.lab rfl) (memOr (memV hf362.labs rfl) (memOr (memV hf366.labs rfl) (memOr (memB hf378.lab rfl) (memV hf370.labs rfl)))))
        have ho401 : OwnSl 1031 Rep.u 22 O397 wd395 z383 r380.last.Pos.Counts := RowG.adopt Flat.u hf362.labs f386 hold398 hnew399 (fun k hk => if_pos hk)
        have ho402 : OwnSl 1032 Rep.u 22 O397 wd395 z384 r380.last.Neg.Counts := RowG.adopt Flat.u hf366.labs f387 hold398 hnew399 (fun k hk => (if_neg (fun (e : Value.ownBlock z383 = some k) => f391 k e hk)).trans (if_pos hk))
        have hb403 : Blk 14 O397 wd395 p93 88 [vi r380.n, vi r380.last.Scale, vu r380.last.Zero, vi r380.last.Pos.Offset, z383, vi r380.last.Neg.Offset, z384] := Blk.adopt hf374 hold398 f388
        have ho404 : OwnSl 1030 Rep.b 5 O397 wd395 z385 r381.b := RowG.adopt Flat.b hf370.labs f389 hold398 hnew399 (fun k hk => (if_neg (fun (e : Value.ownBlock z383 = some k) => f392 k e hk)).trans ((if_neg (fun (e : Value.ownBlock z384 = some k) => f393 k e hk)).trans (if_pos hk)))
        have hb405 : Blk 12 O397 wd395 p77 86 [z385, vi r381.n] := Blk.adopt hf378 hold398 f390
        refine WL.y (Y.assign rfl) rfl ?_
        refine WL.nil ?_
        refine At.then ?_
        refine WC.seq ?_
        refine WC.seq ?_
        refine WC.region ?_
        refine WL.y (Y.move rfl) rfl ?_
        refine WL.y (Y.move rfl) rfl ?_
        refine WL.y (Y.move rfl) rfl ?_
        obtain ⟨e406, he406, h⟩ := bnd h
        have hf415 := hf351.mono (imm_st hst400 rfl rfl)
        obtain ⟨b407, off420, cap414, cs413, hv408, hi409, hl410, hc411, hok412, hA421⟩ := Sl.at2 hf415 he406
        obtain ⟨_, _, rfl, rfl, ⟨_, _, rfl, rfl, ⟨_, _, rfl, ⟨_, _, rfl, rfl, ⟨v416, rfl, hf417⟩⟩, ⟨_, _, rfl, rfl, ⟨v418, rfl, hf419⟩⟩⟩⟩⟩ := hok412
        replace hc411 : CellsAt _ _ _ [vi e406.Scale, vu e406.Zero, vi e406.Pos.Offset, v416, vi e406.Neg.Offset, v418] := hc411
        have hca422 := CAt.imm hc411 hA421
        refine WL.y (Y.indexAddr ty45 ty27 rfl hv408 rfl hi409 hl410) rfl ?_
        refine WL.y (Y.loadAg ty27 rfl rfl hca422.at_ rfl) rfl ?_
        obtain ⟨r423, hp424, h⟩ := bnd h
        refine WL.call (vals := [Value.agg (List.toArray [vi e406.Scale, vu e406.Zero, vi e406.Pos.Offset, v416, vi e406.Neg.Offset, v418])]) kok20 rfl rfl (c_ref08_Check (A := fun _ => True) (a0 := e406) (Sl.all hf417) (Sl.all hf419) hp424) ?_
        rintro vr427 wd426 ⟨rfl, hm425⟩
        obtain ⟨O428, hold429, hnew430, hst431⟩ := adoptE O397 (fun k => 1) hm425
        refine WL.y (Y.neq_i rfl rfl) rfl ?_
        refine WL.nil ?_
        refine At.then ?_
        rcases cnd h with ⟨hc432, h⟩ | ⟨hc432, h⟩
        ·refine WC.condT' rfl hc432 ?_
         refine WC.seq ?_
         refine WC.region ?_
         refine WL.y (Y.assign rfl) rfl ?_
         refine WL.nil ?_
         refine At.then ?_
         refine WC.ret ?_
         refine At.thenR ?_
         refine At.inBlockR ?_
         have h := outs1 h hk231
         refine At.joinR ?_
         refine At.thenR ?_
         refine At.loopR ?_
         have h := outr1 h hn197 hk171
         refine At.joinBR ?_
         refine At.inBlockR ?_
         have h := outs1 h hk127
         refine At.joinR ?_
         refine At.thenR ?_
         obtain rfl := some1 h
         have hs433 : Stp [12, 13, 14, 15, 16, 17, 18, 19, 20, 21, 23, 25, 1003, 1004, 1012, 1013, 1014, 1015, 1016, 1030, 1031, 1032, 1033, 1034] (Lg.O0 A) w O428 wd426 := (Stp.trans (Stp.up hst26 rfl) (Stp.trans (Stp.up hst35 rfl) (Stp.trans (Stp.up hst48 rfl) (Stp.trans (Stp.up hst52 rfl) (Stp.trans (Stp.up hst88 rfl) (Stp.trans (Stp.up hst108 rfl) (Stp.trans (Stp.up hst154 rfl) (Stp.trans (Stp.up hst249 rfl) (Stp.trans (Stp.up hst254 rfl) (Stp.trans (Stp.up hst283 rfl) (Stp.trans (Stp.up hst333 rfl) (Stp.trans (Stp.up hst400 rfl) (Stp.up hst431 rfl)))))))))))))
         exact At.res (.inl rfl) rfl (.tmp rfl .nil) ⟨rfl, (Stp.ext hs433 rfl rfl)⟩
        ·refine WC.condF' rfl hc432 ?_
         refine WC.skip ?_
         refine At.then ?_
         refine WC.seq ?_
         obtain ⟨p443, h, hk444⟩ := bnd h
         refine WC.join (σ := (List Int × List api_Hist × Own × Value × Value)) (fun x w' => (x.1, x.2.1) = p443 ∧ Stp [1033, 1034] O428 wd426 x.2.2.1 w' ∧ OwnSl 1003 Rep.i 3 x.2.2.1 w' x.2.2.2.1 x.1 ∧ OwnSl 1004 rep_api_Hist 27 x.2.2.1 w' x.2.2.2.2 x.2.1) (fun x => [(0, v0), (3, Value.pointer (some ⟨p23, 0, none⟩)), (5, Value.pointer (some ⟨p77, 0, none⟩)), (6, Value.pointer (some ⟨p93, 0, none⟩)), (7, x.2.2.2.1), (8, x.2.2.2.2), (9, vi i151)]) ?_ ?_
         ·refine WC.seq ?_
          refine WC.region ?_
          refine WL.y (Y.move rfl) rfl ?_
          refine WL.y (Y.eql_i rfl rfl) rfl ?_
          refine WL.nil ?_
          refine At.then ?_
          rcases cnd h with ⟨hc445, h⟩ | ⟨hc445, h⟩
          ·refine WC.condT' rfl hc445 ?_
           refine WC.seq ?_
           refine WC.region ?_
           refine WL.y (Y.move rfl) rfl ?_
           refine WL.y (Y.move rfl) rfl ?_
           refine WL.y (Y.move rfl) rfl ?_
           refine WL.y (Y.move rfl) rfl ?_
           obtain ⟨e446, he446, h⟩ := bnd h
           have hf455 := hf415.mono (imm_st hst431 rfl rfl)
           obtain ⟨b447, off460, cap454, cs453, hv448, hi449, hl450, hc451, hok452, hA461⟩ := Sl.at2 hf455 he446
           obtain ⟨_, _, rfl, rfl, ⟨_, _, rfl, rfl, ⟨_, _, rfl, ⟨_, _, rfl, rfl, ⟨v456, rfl, hf457⟩⟩, ⟨_, _, rfl, rfl, ⟨v458, rfl, hf459⟩⟩⟩⟩⟩ := hok452
           replace hc451 : CellsAt _ _ _ [vi e446.Scale, vu e446.Zero, vi e446.Pos.Offset, v456, vi e446.Neg.Offset, v458] := hc451
           have hca462 := CAt.imm hc451 hA461
           refine WL.y (Y.indexAddr ty45 ty27 rfl hv448 rfl hi449 hl450) rfl ?_
           refine WL.y (Y.loadAg ty27 rfl rfl hca462.at_ rfl) rfl ?_
           have hf463 := hf150.st hst249 rfl rfl rfl
           have hf464 := hf463.st hst254 rfl rfl rfl
           have hf465 := hf464.st hst283 rfl rfl rfl
           have hf466 := hf465.st hst333 rfl rfl rfl
           have hf467 := hf466.st hst400 rfl rfl rfl
           have hf468 := hf467.st hst431 rfl rfl rfl
           obtain ⟨r469, hp470, h⟩ := bnd h
           refine WL.call (vals := [v149, Value.agg (List.toArray [vi e446.Scale, vu e446.Zero, vi e446.Pos.Offset, v456, vi e446.Neg.Offset, v458])]) kok55 rfl rfl (c_ref10_Put (A := fun _ => True) (a1 := e446) (hf468.src.sl) (Sl.all hf457) (Sl.all hf459) hp470) ?_
           rintro vr475 wd474 ⟨_, rfl, hm473, f472⟩
           obtain ⟨O476, hold477, hnew478, hst479⟩ := adoptE O428 (fun k => if Value.ownBlock vr475 = some k then 22 else 1) hm473
           have hf480 : OwnSl 22 Rep.i 3 O476 wd474 vr475 r469 := RowF.adopt 22 Flat.i f472 hnew478 (fun k hk => if_pos hk)
           obtain ⟨xs481, hxs481, h⟩ := bnd h
           have hf482 := hf147.st hst249 rfl rfl rfl
           have hf483 := hf482.st hst254 rfl rfl rfl
           have hf484 := hf483.st hst283 rfl rfl rfl
           have hf485 := hf484.st hst333 rfl rfl rfl
           have hf486 := hf485.st hst400 rfl rfl rfl
           have hf487 := hf486.st hst431 rfl rfl rfl
           have hf488 := hf487.st hst479 rfl rfl rfl
           refine WL.append (by decide) ty64 ty3 rfl (by decide) rfl rfl hf488 hf480.src hxs481 rfl ?_
           intro v492 O489 wd490 hst491 ho493
           refine WL.y (Y.assign rfl) rfl ?_
           refine WL.nil ?_
           refine At.then ?_
           refine WC.region ?_
           refine WL.y (Y.move rfl) rfl ?_
           refine WL.y (Y.move rfl) rfl ?_
           refine WL.y (Y.move rfl) rfl ?_
           obtain ⟨e494, he494, h⟩ := bnd h
           have hf503 := hf455.mono (imm_st hst479 rfl rfl)
           have hf504 := hf503.mono (imm_st hst491 rfl rfl)
           obtain ⟨b495, off509, cap502, cs501, hv496, hi497, hl498, hc499, hok500, hA510⟩ := Sl.at2 hf504 he494
           obtain ⟨_, _, rfl, rfl, ⟨_, _, rfl, rfl, ⟨_, _, rfl, ⟨_, _, rfl, rfl, ⟨v505, rfl, hf506⟩⟩, ⟨_, _, rfl, rfl, ⟨v507, rfl, hf508⟩⟩⟩⟩⟩ := hok500
           replace hc499 : CellsAt _ _ _ [vi e494.Scale, vu e494.Zero, vi e494.Pos.Offset, v505, vi e494.Neg.Offset, v507] := hc499
           have hca511 := CAt.imm hc499 hA510
           refine WL.y (Y.indexAddr ty45 ty27 rfl hv496 rfl hi497 hl498) rfl ?_
           refine WL.y (Y.loadAg ty27 rfl rfl hca511.at_ rfl) rfl ?_
           have hh515 := h
           obtain ⟨p512, m513, c514, rfl⟩ := hf506.shape
           have h := hh515
           have hh519 := h
           obtain ⟨p516, m517, c518, rfl⟩ := hf508.shape
           have h := hh519
           refine WL.buildSlice (O := O489) (R := rep_api_Hist) (vals := [(0, Value.agg (List.toArray [vi e494.Scale, vu e494.Zero, vi e494.Pos.Offset, (Value.slice p512 m513 c514), vi e494.Neg.Offset, (Value.slice p516 m517 c518)]))]) 23 [vi e494.Scale, vu e494.Zero, vi e494.Pos.Offset, (Value.slice p512 m513 c514), vi e494.Neg.Offset, (Value.slice p516 m517 c518)] (xs := [e494]) (by decide) ty45 ty27 (by decide) (by decide) (Fits.evalp rfl) (by kernel_rfl) rfl ⟨[vi e494.Scale, vu e494.Zero, vi e494.Pos.Offset, (Value.slice p512 m513 c514), vi e494.Neg.Offset, (Value.slice p516 m517 c518)], [], rfl, ⟨[vi e494.Scale], [vu e494.Zero, vi e494.Pos.Offset, (Value.slice p512 m513 c514), vi e494.Neg.Offset, (Value.slice p516 m517 c518)], rfl, rfl, ⟨[vu e494.Zero], [vi e494.Pos.Offset, (Value.slice p512 m513 c514), vi e494.Neg.Offset, (Value.slice p516 m517 c518)], rfl, rfl, ⟨[vi e494.Pos.Offset, (Value.slice p512 m513 c514)], [vi e494.Neg.Offset, (Value.slice p516 m517 c518)], rfl, ⟨[vi e494.Pos.Offset], [(Value.slice p512 m513 c514)], rfl, rfl, ⟨_, rfl, hf506⟩⟩, ⟨[vi e494.Neg.Offset], [(Value.slice p516 m517 c518)], rfl, rfl, ⟨_, rfl, hf508⟩⟩⟩⟩⟩, rfl⟩ rfl ?_
           intro v520 O522 wd523 hst524 ho521
           obtain ⟨xs525, hxs525, h⟩ := bnd h
           have hf526 := hf468.st hst479 rfl rfl rfl
           have hf527 := hf526.st hst491 rfl rfl rfl
           have hf528 := hf527.st hst524 rfl rfl rfl
           refine WL.append (by decide) ty45 ty27 rfl (by decide) rfl rfl hf528 ho521.src hxs525 rfl ?_
           intro v532 O529 wd530 hst531 ho533
           refine WL.y (Y.assign rfl) rfl ?_
           refine WL.nil ?_
           have hf534 := ho493.st hst524 rfl rfl rfl
           have hf535 := hf534.st hst531 rfl rfl rfl
           obtain ⟨O536, hst537, ho538⟩ := OwnSl.rlb 1003 rfl hf535
           have hf539 := ho533.st hst537 rfl rfl rfl
           obtain ⟨O540, hst541, ho542⟩ := OwnSl.rlb 1004 rfl hf539
           have hf543 := ho538.st hst541 rfl rfl rfl
           exact At.join (σ := (List Int × List api_Hist × Own × Value × Value)) (xs481, xs525, O540, v492, v532) ⟨some1 h, (Stp.trans (Stp.up hst479 rfl) (Stp.trans (Stp.up hst491 rfl) (Stp.trans (Stp.up hst524 rfl) (Stp.trans (Stp.up hst531 rfl) (Stp.trans (Stp.up hst537 rfl) (Stp.up hst541 rfl)))))), hf543, ho542⟩ (.cons rfl (.cons rfl (.cons rfl (.cons rfl (.cons rfl (.cons rfl (.cons rfl .nil)))))))
          ·refine WC.condF' rfl hc445 ?_
           refine WC.skip ?_
           have hf544 := hf147.st hst249 rfl rfl rfl
           have hf545 := hf544.st hst254 rfl rfl rfl
           have hf546 := hf545.st hst283 rfl rfl rfl
           have hf547 := hf546.st hst333 rfl rfl rfl
           have hf548 := hf547.st hst400 rfl rfl rfl
           have hf549 := hf548.st hst431 rfl rfl rfl
           obtain ⟨O550, hst551, ho552⟩ := OwnSl.rlb 1003 rfl hf549
           have hf553 := hf150.st hst249 rfl rfl rfl
           have hf554 := hf553.st hst254 rfl rfl rfl
           have hf555 := hf554.st hst283 rfl rfl rfl
           have hf556 := hf555.st hst333 rfl rfl rfl
           have hf557 := hf556.st hst400 rfl rfl rfl
           have hf558 := hf557.st hst431 rfl rfl rfl
           have hf559 := hf558.st hst551 rfl rfl rfl
           obtain ⟨O560, hst561, ho562⟩ := OwnSl.rlb 1004 rfl hf559
           have hf563 := ho552.st hst561 rfl rfl rfl
           exact At.join (σ := (List Int × List api_Hist × Own × Value × Value)) (bits145, row148, O560, v146, v149) ⟨some1 h, (Stp.trans (Stp.up hst551 rfl) (Stp.up hst561 rfl)), hf563, ho562⟩ (.cons rfl (.cons rfl (.cons rfl (.cons rfl (.cons rfl (.cons rfl (.cons rfl .nil)))))))
         ·rintro ⟨bits434, row437, O440, v435, v438⟩ wd441 ⟨rfl, hst442, hf436, hf439⟩
          replace h := hk444
          try dsimp only at h hst442 hf436 hf439
          refine (show At _ _ _ [(0, v0), (3, Value.pointer (some ⟨p23, 0, none⟩)), (5, Value.pointer (some ⟨p77, 0, none⟩)), (6, Value.pointer (some ⟨p93, 0, none⟩)), (7, v435), (8, v438), (9, vi i151)] _ from ?_)
          refine At.then ?_
          refine WC.seq ?_
          refine WC.region ?_
          refine WL.y (Y.move rfl) rfl ?_
          have hf564 := hb405.st hst431 rfl
          have hf565 := hf564.st hst442 rfl
          have hf566 := ho404.st hst431 rfl rfl rfl
          have hf567 := hf566.st hst442 rfl rfl rfl
          obtain ⟨r568, hp569, h⟩ := bnd h
          refine WL.call (vals := [Value.pointer (some ⟨p77, 0, none⟩)]) kok35 rfl rfl (c_bitio_Writer_Len (A := fun _ => True) (a0 := r381) (hf567.src.sl) hf565.blk trivial hp569) ?_
          rintro vr572 wd571 ⟨rfl, hm570⟩
          obtain ⟨O573, hold574, hnew575, hst576⟩ := adoptE O440 (fun k => 1) hm570
          refine WL.y (Y.move rfl) rfl ?_
          have hf577 := hf436.st hst576 rfl rfl rfl
          refine WL.y (Y.len ty64 rfl hf577.src.sl) rfl ?_
          refine WL.y (Y.neq_i rfl rfl) rfl ?_
          refine WL.y (Y.move rfl) rfl ?_
          obtain ⟨p582, h, hk583⟩ := bnd h
          refine WL.cut 6 (σ := (Bool × Own)) (fun x w' => x.1 = p582 ∧ Stp [] O573 wd571 x.2 w') (fun x => [(0, v0), (3, Value.pointer (some ⟨p23, 0, none⟩)), (5, Value.pointer (some ⟨p77, 0, none⟩)), (6, Value.pointer (some ⟨p93, 0, none⟩)), (7, v435), (8, v438), (9, vi i151), (84, Value.bool x.1)]) ?_ ?_
          ·rcases cnd h with ⟨hE584, h⟩ | ⟨hE584, h⟩
           ·refine WL.ren 78 rfl (congrArg Value.bool hE584) ?_
            refine WL.gS rfl rfl rfl rfl ?_
            refine WL.gS rfl rfl rfl rfl ?_
            refine WL.gS rfl rfl rfl rfl ?_
            refine WL.gS rfl rfl rfl rfl ?_
            refine WL.gS rfl rfl rfl rfl ?_
            refine WL.y (Y.pick (b := true) rfl rfl) rfl ?_
            exact WL.nil (At.join (σ := (Bool × Own)) (true, O573) ⟨some1 h, (Stp.refl _ _ _)⟩ (.cons rfl (.cons rfl (.cons rfl (.cons rfl (.cons rfl (.cons rfl (.cons rfl (.cons rfl .nil)))))))))
           ·refine WL.ren 78 rfl (congrArg Value.bool hE584) ?_
            refine WL.ung rfl rfl ?_
            refine WL.y (Y.move rfl) rfl ?_
            refine WL.ung rfl rfl ?_
            have hf585 := hb403.st hst431 rfl
            have hf586 := hf585.st hst442 rfl
            have hf587 := hf586.st hst576 rfl
            have hf588 := ho401.st hst431 rfl rfl rfl
            have hf589 := hf588.st hst442 rfl rfl rfl
            have hf590 := hf589.st hst576 rfl rfl rfl
            have hf591 := ho402.st hst431 rfl rfl rfl
            have hf592 := hf591.st hst442 rfl rfl rfl
            have hf593 := hf592.st hst576 rfl rfl rfl
            obtain ⟨r594, hp595, h⟩ := bnd h
            refine WL.call (vals := [Value.pointer (some ⟨p93, 0, none⟩)]) kok36 rfl rfl (c_histbits_Row_Len (A := fun _ => True) (a0 := r380) (hf590.src.sl) (hf593.src.sl) hf587.blk trivial hp595) ?_
            rintro vr598 wd597 ⟨rfl, hm596⟩
            obtain ⟨O599, hold600, hnew601, hst602⟩ := adoptE O573 (fun k => 1) hm596
            refine WL.ung rfl rfl ?_
            refine WL.y (Y.move rfl) rfl ?_
            refine WL.ung rfl rfl ?_
            have hf603 := hf439.st hst576 rfl rfl rfl
            have hf604 := hf603.st hst602 rfl rfl rfl
            refine WL.y (Y.len ty45 rfl hf604.src.sl) rfl ?_
            refine WL.ung rfl rfl ?_
            refine WL.y (Y.neq_i rfl rfl) rfl ?_
            refine WL.y (Y.pick (b := false) rfl rfl) rfl ?_
            exact WL.nil (At.join (σ := (Bool × Own)) ((!decide (r594 = (row437.length : Int))), O599) ⟨some1 h, (Stp.up hst602 rfl)⟩ (.cons rfl (.cons rfl (.cons rfl (.cons rfl (.cons rfl (.cons rfl (.cons rfl (.cons rfl .nil)))))))))
          ·rintro ⟨x578, O579⟩ wd580 ⟨rfl, hst581⟩
           replace h := hk583
           try dsimp only at h hst581
           refine (show WL _ _ _ _ _ [(0, v0), (3, Value.pointer (some ⟨p23, 0, none⟩)), (5, Value.pointer (some ⟨p77, 0, none⟩)), (6, Value.pointer (some ⟨p93, 0, none⟩)), (7, v435), (8, v438), (9, vi i151), (84, Value.bool x578)] _ from ?_)
           refine WL.nil ?_
           refine At.then ?_
           rcases cnd h with ⟨hc605, h⟩ | ⟨hc605, h⟩
           ·refine WC.condT' rfl hc605 ?_
            refine WC.seq ?_
            refine WC.region ?_
            refine WL.y (Y.assign rfl) rfl ?_
            refine WL.nil ?_
            refine At.then ?_
            refine WC.ret ?_
            refine At.inBlockR ?_
            have h := outs1 h hk231
            refine At.joinR ?_
            refine At.thenR ?_
            refine At.loopR ?_
            have h := outr1 h hn197 hk171
            refine At.joinBR ?_
            refine At.inBlockR ?_
            have h := outs1 h hk127
            refine At.joinR ?_
            refine At.thenR ?_
            obtain rfl := some1 h
            have hs606 : Stp [12, 13, 14, 15, 16, 17, 18, 19, 20, 21, 23, 25, 1003, 1004, 1012, 1013, 1014, 1015, 1016, 1030, 1031, 1032, 1033, 1034] (Lg.O0 A) w O579 wd580 := (Stp.trans (Stp.up hst26 rfl) (Stp.trans (Stp.up hst35 rfl) (Stp.trans (Stp.up hst48 rfl) (Stp.trans (Stp.up hst52 rfl) (Stp.trans (Stp.up hst88 rfl) (Stp.trans (Stp.up hst108 rfl) (Stp.trans (Stp.up hst154 rfl) (Stp.trans (Stp.up hst249 rfl) (Stp.trans (Stp.up hst254 rfl) (Stp.trans (Stp.up hst283 rfl) (Stp.trans (Stp.up hst333 rfl) (Stp.trans (Stp.up hst400 rfl) (Stp.trans (Stp.up hst431 rfl) (Stp.trans (Stp.up hst442 rfl) (Stp.trans (Stp.up hst576 rfl) (Stp.up hst581 rfl))))))))))))))))
            exact At.res (.inl rfl) rfl (.tmp rfl .nil) ⟨rfl, (Stp.ext hs606 rfl rfl)⟩
           ·refine WC.condF' rfl hc605 ?_
            refine WC.skip ?_
            refine At.inBlock ?_
            have hf607 := hf567.st hst576 rfl rfl rfl
            have hf608 := hf607.st hst581 rfl rfl rfl
            obtain ⟨O609, hst610, ho611⟩ := OwnSl.rlb 1012 rfl hf608
            have hf612 := ho401.st hst431 rfl rfl rfl
            have hf613 := hf612.st hst442 rfl rfl rfl
            have hf614 := hf613.st hst576 rfl rfl rfl
            have hf615 := hf614.st hst581 rfl rfl rfl
            have hf616 := hf615.st hst610 rfl rfl rfl
            obtain ⟨O617, hst618, ho619⟩ := OwnSl.rlb 1013 rfl hf616
            have hf620 := ho402.st hst431 rfl rfl rfl
            have hf621 := hf620.st hst442 rfl rfl rfl
            have hf622 := hf621.st hst576 rfl rfl rfl
            have hf623 := hf622.st hst581 rfl rfl rfl
            have hf624 := hf623.st hst610 rfl rfl rfl
            have hf625 := hf624.st hst618 rfl rfl rfl
            obtain ⟨O626, hst627, ho628⟩ := OwnSl.rlb 1014 rfl hf625
            have hf629 := hf577.st hst581 rfl rfl rfl
            have hf630 := hf629.st hst610 rfl rfl rfl
            have hf631 := hf630.st hst618 rfl rfl rfl
            have hf632 := hf631.st hst627 rfl rfl rfl
            obtain ⟨O633, hst634, ho635⟩ := OwnSl.rlb 1015 rfl hf632
            have hf636 := hf439.st hst576 rfl rfl rfl
            have hf637 := hf636.st hst581 rfl rfl rfl
            have hf638 := hf637.st hst610 rfl rfl rfl
            have hf639 := hf638.st hst618 rfl rfl rfl
            have hf640 := hf639.st hst627 rfl rfl rfl
            have hf641 := hf640.st hst634 rfl rfl rfl
            obtain ⟨O642, hst643, ho644⟩ := OwnSl.rlb 1016 rfl hf641
            have hf645 := ho611.st hst618 rfl rfl rfl
            have hf646 := hf645.st hst627 rfl rfl rfl
            have hf647 := hf646.st hst634 rfl rfl rfl
            have hf648 := hf647.st hst643 rfl rfl rfl
            have hf649 := hf565.st hst576 rfl
            have hf650 := hf649.st hst581 rfl
            have hf651 := hf650.st hst610 rfl
            have hf652 := hf651.st hst618 rfl
            have hf653 := hf652.st hst627 rfl
            have hf654 := hf653.st hst634 rfl
            have hf655 := hf654.st hst643 rfl
            have hf656 := ho619.st hst627 rfl rfl rfl
            have hf657 := hf656.st hst634 rfl rfl rfl
            have hf658 := hf657.st hst643 rfl rfl rfl
            have hf659 := ho628.st hst634 rfl rfl rfl
            have hf660 := hf659.st hst643 rfl rfl rfl
            have hf661 := hb403.st hst431 rfl
            have hf662 := hf661.st hst442 rfl
            have hf663 := hf662.st hst576 rfl
            have hf664 := hf663.st hst581 rfl
            have hf665 := hf664.st hst610 rfl
            have hf666 := hf665.st hst618 rfl
            have hf667 := hf666.st hst627 rfl
            have hf668 := hf667.st hst634 rfl
            have hf669 := hf668.st hst643 rfl
            have hf670 := ho635.st hst643 rfl rfl rfl
            exact At.join (σ := (List UInt8 × Int × Int × Int × UInt64 × Int × List UInt64 × Int × List UInt64 × List Int × List api_Hist × Own × Value × Value × Value × Value × Value)) (r381.b, r381.n, r380.n, r380.last.Scale, r380.last.Zero, r380.last.Pos.Offset, r380.last.Pos.Counts, r380.last.Neg.Offset, r380.last.Neg.Counts, bits434, row437, O642, z385, z383, z384, v435, v438) ⟨go2 h, (Stp.trans (Stp.up hst249 rfl) (Stp.trans (Stp.up hst254 rfl) (Stp.trans (Stp.up hst283 rfl) (Stp.trans (Stp.up hst333 rfl) (Stp.trans (Stp.up hst400 rfl) (Stp.trans (Stp.up hst431 rfl) (Stp.trans (Stp.up hst442 rfl) (Stp.trans (Stp.up hst576 rfl) (Stp.trans (Stp.up hst581 rfl) (Stp.trans (Stp.up hst610 rfl) (Stp.trans (Stp.up hst618 rfl) (Stp.trans (Stp.up hst627 rfl) (Stp.trans (Stp.up hst634 rfl) (Stp.up hst643 rfl)))))))))))))), hf648, hf655, hf658, hf660, hf669, hf670, ho644⟩ (.cons rfl (.cons rfl (.cons rfl (.cons rfl (.cons rfl (.cons rfl (.cons rfl .nil)))))))
       ·rintro ⟨c205, c208, c210, c211, c212, c213, c214, c217, c218, bits221, row224, O227, v206, v215, v219, v222, v225⟩ wd228 ⟨rfl, hst229, hf207, hb204, hf216, hf220, hb209, hf223, hf226⟩
        replace h := flowK_go hk231
        try dsimp only at h hst229 hf207 hb204 hf216 hf220 hb209 hf223 hf226
        refine (show At _ _ _ [(0, v0), (3, Value.pointer (some ⟨p23, 0, none⟩)), (5, Value.pointer (some ⟨p77, 0, none⟩)), (6, Value.pointer (some ⟨p93, 0, none⟩)), (7, v222), (8, v225), (9, vi i151)] _ from ?_)
        refine At.then ?_
        refine WC.region ?_
        refine WL.y (Y.move rfl) rfl ?_
        refine WL.y (Y.add_i rfl rfl) rfl ?_
        obtain ⟨i671, hi671, h⟩ := lt1 h
        refine WL.yE (Y.assign rfl) (congrArg vi hi671.symm) rfl ?_
        refine WL.nil ?_
        obtain ⟨O672, hst673, ho674⟩ := OwnSl.rlb 1030 rfl hf207
        have hf675 := hf216.st hst673 rfl rfl rfl
        obtain ⟨O676, hst677, ho678⟩ := OwnSl.rlb 1031 rfl hf675
        have hf679 := hf220.st hst673 rfl rfl rfl
        have hf680 := hf679.st hst677 rfl rfl rfl
        obtain ⟨O681, hst682, ho683⟩ := OwnSl.rlb 1032 rfl hf680
        have hf684 := hf223.st hst673 rfl rfl rfl
        have hf685 := hf684.st hst677 rfl rfl rfl
        have hf686 := hf685.st hst682 rfl rfl rfl
        obtain ⟨O687, hst688, ho689⟩ := OwnSl.rlb 1033 rfl hf686
        have hf690 := hf226.st hst673 rfl rfl rfl
        have hf691 := hf690.st hst677 rfl rfl rfl
        have hf692 := hf691.st hst682 rfl rfl rfl
        have hf693 := hf692.st hst688 rfl rfl rfl
        obtain ⟨O694, hst695, ho696⟩ := OwnSl.rlb 1034 rfl hf693
        have hf697 := ho674.st hst677 rfl rfl rfl
        have hf698 := hf697.st hst682 rfl rfl rfl
        have hf699 := hf698.st hst688 rfl rfl rfl
        have hf700 := hf699.st hst695 rfl rfl rfl
        have hf701 := hb204.st hst673 rfl
        have hf702 := hf701.st hst677 rfl
        have hf703 := hf702.st hst682 rfl
        have hf704 := hf703.st hst688 rfl
        have hf705 := hf704.st hst695 rfl
        have hf706 := ho678.st hst682 rfl rfl rfl
        have hf707 := hf706.st hst688 rfl rfl rfl
        have hf708 := hf707.st hst695 rfl rfl rfl
        have hf709 := ho683.st hst688 rfl rfl rfl
        have hf710 := hf709.st hst695 rfl rfl rfl
        have hf711 := hb209.st hst673 rfl
        have hf712 := hf711.st hst677 rfl
        have hf713 := hf712.st hst682 rfl
        have hf714 := hf713.st hst688 rfl
        have hf715 := hf714.st hst695 rfl
        have hf716 := ho689.st hst695 rfl rfl rfl
        exact At.round (c205, c208, c210, c211, c212, c213, c214, c217, c218, bits221, row224, i671, O694, v206, v215, v219, v222, v225) j195 (Nat.lt_succ_self _) ⟨next1 h hn197, (Stp.trans (Stp.up hst154 rfl) (Stp.trans (Stp.up hst229 rfl) (Stp.trans (Stp.up hst673 rfl) (Stp.trans (Stp.up hst677 rfl) (Stp.trans (Stp.up hst682 rfl) (Stp.trans (Stp.up hst688 rfl) (Stp.up hst695 rfl))))))), hf700, hf705, hf708, hf710, hf715, hf716, ho696⟩ (.cons rfl (.cons rfl (.cons rfl (.cons rfl (.cons rfl (.cons rfl (.cons rfl .nil)))))))
      ·refine WC.condF' rfl hc203 ?_
       refine WC.exit ?_
       refine At.thenX ?_
       refine At.loopX ?_
       obtain ⟨O717, hst718, ho719⟩ := OwnSl.rlb 1068 rfl hf131
       have hf720 := hf147.st hst718 rfl rfl rfl
       obtain ⟨O721, hst722, ho723⟩ := OwnSl.rlb 1069 rfl hf720
       have hf724 := hf150.st hst718 rfl rfl rfl
       have hf725 := hf724.st hst722 rfl rfl rfl
       obtain ⟨O726, hst727, ho728⟩ := OwnSl.rlb 1070 rfl hf725
       have hf729 := ho719.st hst722 rfl rfl rfl
       have hf730 := hf729.st hst727 rfl rfl rfl
       have hf731 := hb128.st hst718 rfl
       have hf732 := hf731.st hst722 rfl
       have hf733 := hf732.st hst727 rfl
       have hf734 := ho723.st hst727 rfl rfl rfl
       exact At.hitB (σ := (List UInt8 × Int × List Int × List api_Hist × Own × Value × Value × Value)) (c129, c132, bits145, row148, O726, v130, v146, v149) ⟨brk1 h hn197, (Stp.trans (Stp.up hst154 rfl) (Stp.trans (Stp.up hst718 rfl) (Stp.trans (Stp.up hst722 rfl) (Stp.up hst727 rfl)))), hf730, hf733, hf734, ho728⟩ (.cons rfl (.cons rfl (.cons rfl .nil)))
     ·rintro ⟨c156, c159, bits160, row163, O166, v157, v161, v164⟩ wd167 ⟨rfl, hst168, hf158, hb155, hf162, hf165⟩
      replace h := flowK_go hk171
      try dsimp only at h hst168 hf158 hb155 hf162 hf165
      refine (show At _ _ _ [(5, Value.pointer (some ⟨p77, 0, none⟩)), (7, v161), (8, v164)] _ from ?_)
      refine At.inBlockHit ?_
      obtain ⟨O735, hst736, ho737⟩ := OwnSl.rlb 1151 rfl hf158
      have hf738 := hf162.st hst736 rfl rfl rfl
      obtain ⟨O739, hst740, ho741⟩ := OwnSl.rlb 1152 rfl hf738
      have hf742 := hf165.st hst736 rfl rfl rfl
      have hf743 := hf742.st hst740 rfl rfl rfl
      obtain ⟨O744, hst745, ho746⟩ := OwnSl.rlb 1153 rfl hf743
      have hf747 := ho737.st hst740 rfl rfl rfl
      have hf748 := hf747.st hst745 rfl rfl rfl
      have hf749 := hb155.st hst736 rfl
      have hf750 := hf749.st hst740 rfl
      have hf751 := hf750.st hst745 rfl
      have hf752 := ho741.st hst745 rfl rfl rfl
      exact At.join (σ := (List UInt8 × Int × List Int × List api_Hist × Own × Value × Value × Value)) (c156, c159, bits160, row163, O744, v157, v161, v164) ⟨go2 h, (Stp.trans (Stp.up hst168 rfl) (Stp.trans (Stp.up hst736 rfl) (Stp.trans (Stp.up hst740 rfl) (Stp.up hst745 rfl)))), hf748, hf751, hf752, ho746⟩ (.cons rfl (.cons rfl (.cons rfl .nil)))
    ·rintro ⟨c113, c116, bits117, row120, O123, v114, v118, v121⟩ wd124 ⟨rfl, hst125, hf115, hb112, hf119, hf122⟩
     replace h := flowK_go hk127
     try dsimp only at h hst125 hf115 hb112 hf119 hf122
     refine (show At _ _ _ [(5, Value.pointer (some ⟨p77, 0, none⟩)), (7, v118), (8, v121)] _ from ?_)
     refine At.then ?_
     refine WC.seq ?_
     refine WC.seq ?_
     refine WC.drawH [] [0, 1, 2, 3, 4, 5, 6] O123 7 fmix rfl (by kernel_rfl) ?_
     intro wd753 hst754
     refine WD.y 0 rfl (by kernel_rfl) (fun _ _ _ => Y.move rfl) rfl ?_
     refine WD.y 3 rfl (by kernel_rfl) (fun _ _ _ => Y.move rfl) rfl ?_
     refine WD.heavy 1 rfl (by kernel_rfl) ?_
     have hf761 := hb112.st hst754 rfl
     have hf762 := hf115.st hst754 rfl rfl rfl
     obtain ⟨r763, hp764, h⟩ := bnd h
     refine WL.call (vals := [Value.pointer (some ⟨p77, 0, none⟩)]) kok52 rfl rfl (c_bitio_Writer_Bytes (A := fun _ => True) (a0 := (bitio_Writer.mk c113 c116)) (hf762.src.sl) hf761.blk trivial hp764) ?_
     rintro vr769 wd768 ⟨_, rfl, hm767, f766⟩
     obtain ⟨O770, hold771, hnew772, hst773⟩ := adoptE O123 (fun k => if Value.ownBlock vr769 = some k then 24 else 1) hm767
     have hf774 : OwnSl 24 Rep.b 5 O770 wd768 vr769 r763 := RowF.adopt 24 Flat.b f766 hnew772 (fun k hk => if_pos hk)
     refine WL.nil ?_
     refine At.dq (Stp.up hst773 rfl) ?_
     refine WD.y 2 rfl (by kernel_rfl) (fun wd776 O775 hst777 => have hf778 := hf774.st hst777 rfl rfl rfl; Y.b2s ty60 ty5 ty9 rfl hf778.src.sl) rfl ?_
     refine WD.heavy 4 rfl (by kernel_rfl) ?_
     have hf779 := hf119.st hst754 rfl rfl rfl
     have hf780 := hf779.st hst773 rfl rfl rfl
     obtain ⟨r781, hp782, h⟩ := bnd h
     refine WL.call (vals := [v118]) kok53 rfl rfl (c_ref01_Bytes (A := fun _ => True) (hf780.src.sl) hp782) ?_
     rintro vr787 wd786 ⟨_, rfl, hm785, f784⟩
     obtain ⟨O788, hold789, hnew790, hst791⟩ := adoptE O770 (fun k => if Value.ownBlock vr787 = some k then 25 else 1) hm785
     have hf792 : OwnSl 25 Rep.b 5 O788 wd786 vr787 r781 := RowF.adopt 25 Flat.b f784 hnew790 (fun k hk => if_pos hk)
     refine WL.nil ?_
     refine At.dq (Stp.up hst791 rfl) ?_
     refine WD.y 5 rfl (by kernel_rfl) (fun wd794 O793 hst795 => have hf796 := hf792.st hst795 rfl rfl rfl; Y.b2s ty60 ty5 ty9 rfl hf796.src.sl) rfl ?_
     refine WD.y 6 rfl (by kernel_rfl) (fun _ _ _ => Y.neq_s rfl rfl) rfl ?_
     refine WD.done_ (by kernel_rfl) ?_
     refine At.then ?_
     rcases cnd h with ⟨hc800, h⟩ | ⟨hc800, h⟩
     ·refine WC.condT' rfl hc800 ?_
      refine WC.seq ?_
      refine WC.region ?_
      refine WL.y (Y.assign rfl) rfl ?_
      refine WL.nil ?_
      refine At.then ?_
      refine WC.ret ?_
      refine At.thenR ?_
      obtain rfl := some1 h
      have hs801 : Stp [12, 13, 14, 15, 16, 17, 18, 19, 20, 21, 23, 25, 1003, 1004, 1012, 1013, 1014, 1015, 1016, 1030, 1031, 1032, 1033, 1034, 1068, 1069, 1070] (Lg.O0 A) w O788 wd786 := (Stp.trans (Stp.up hst26 rfl) (Stp.trans (Stp.up hst35 rfl) (Stp.trans (Stp.up hst48 rfl) (Stp.trans (Stp.up hst52 rfl) (Stp.trans (Stp.up hst88 rfl) (Stp.trans (Stp.up hst108 rfl) (Stp.trans (Stp.up hst125 rfl) (Stp.trans (Stp.up hst754 rfl) (Stp.trans (Stp.up hst773 rfl) (Stp.up hst791 rfl))))))))))
      exact At.res (.inl rfl) rfl (.tmp rfl .nil) ⟨rfl, (Stp.ext hs801 rfl rfl)⟩
     ·refine WC.condF' rfl hc800 ?_
      refine WC.skip ?_
      refine At.then ?_
      refine WC.seq ?_
      refine WC.region ?_
      refine WL.y (Y.move rfl) rfl ?_
      have hf802 := hf761.st hst773 rfl
      have hf803 := hf802.st hst791 rfl
      have hf804 := hf762.st hst773 rfl rfl rfl
      have hf805 := hf804.st hst791 rfl rfl rfl
      obtain ⟨r806, hp807, h⟩ := bnd h
      refine WL.call (vals := [Value.pointer (some ⟨p77, 0, none⟩)]) kok52 rfl rfl (c_bitio_Writer_Bytes (A := fun _ => True) (a0 := (bitio_Writer.mk c113 c116)) (hf805.src.sl) hf803.blk trivial hp807) ?_
      rintro vr812 wd811 ⟨_, rfl, hm810, f809⟩
      obtain ⟨O813, hold814, hnew815, hst816⟩ := adoptE O788 (fun k => if Value.ownBlock vr812 = some k then 26 else 1) hm810
      have hf817 : OwnSl 26 Rep.b 5 O813 wd811 vr812 r806 := RowF.adopt 26 Flat.b f809 hnew815 (fun k hk => if_pos hk)
      refine WL.y (Y.move rfl) rfl ?_
      have hf818 := hf803.st hst816 rfl
      have hf819 := hf805.st hst816 rfl rfl rfl
      obtain ⟨r820, hp821, h⟩ := bnd h
      refine WL.call (vals := [Value.pointer (some ⟨p77, 0, none⟩)]) kok35 rfl rfl (c_bitio_Writer_Len (A := fun _ => True) (a0 := (bitio_Writer.mk c113 c116)) (hf819.src.sl) hf818.blk trivial hp821) ?_
      rintro vr824 wd823 ⟨rfl, hm822⟩
      obtain ⟨O825, hold826, hnew827, hst828⟩ := adoptE O813 (fun k => 1) hm822
      have hf829 := hf817.st hst828 rfl rfl rfl
      obtain ⟨⟨r830, r831⟩, hp832, h⟩ := bnd h
      refine WL.call (vals := [vr812, vi r820]) kok47 rfl rfl (c_bitio_NewReader (A := fun _ => True) (hf829.src.sl) hp832) ?_
      rintro vr837 wd836 ⟨u833, rfl, hm835, f834⟩
      obtain ⟨O838, hold839, hnew840, hst841⟩ := adoptE O825 (labP u833 27) hm835
      refine WL.y (Y.move rfl) rfl ?_
      refine WL.y (Y.extract rfl rfl) rfl ?_
      refine WL.y (Y.extract rfl rfl) rfl ?_
      refine WL.y (Y.assign rfl) rfl ?_
      refine WL.y (Y.assign rfl) rfl ?_
      refine WL.nil ?_
      refine At.then ?_
      refine WC.seq ?_
      refine WC.seq ?_
      refine WC.region ?_
      refine WL.y (Y.move rfl) rfl ?_
      refine WL.y (Y.eql_opt ty61.u rfl rfl f834 (fun d hd => by obtain ⟨_, _, e, _⟩ := hd; exact ⟨_, e⟩)) rfl ?_
      refine WL.nil ?_
      refine At.then ?_
      rcases cnd h with ⟨hc842, h⟩ | ⟨hc842, h⟩
      ·refine WC.condT' rfl hc842 ?_
       refine WC.seq ?_
       refine WC.region ?_
       refine WL.y (Y.assign rfl) rfl ?_
       refine WL.nil ?_
       refine At.then ?_
       refine WC.ret ?_
       refine At.thenR ?_
       obtain rfl := some1 h
       have hs843 : Stp [12, 13, 14, 15, 16, 17, 18, 19, 20, 21, 23, 25, 1003, 1004, 1012, 1013, 1014, 1015, 1016, 1030, 1031, 1032, 1033, 1034, 1068, 1069, 1070] (Lg.O0 A) w O838 wd836 := (Stp.trans (Stp.up hst26 rfl) (Stp.trans (Stp.up hst35 rfl) (Stp.trans (Stp.up hst48 rfl) (Stp.trans (Stp.up hst52 rfl) (Stp.trans (Stp.up hst88 rfl) (Stp.trans (Stp.up hst108 rfl) (Stp.trans (Stp.up hst125 rfl) (Stp.trans (Stp.up hst754 rfl) (Stp.trans (Stp.up hst773 rfl) (Stp.trans (Stp.up hst791 rfl) (Stp.trans (Stp.up hst816 rfl) (Stp.trans (Stp.up hst828 rfl) (Stp.up hst841 rfl)))))))))))))
       exact At.res (.inl rfl) rfl (.tmp rfl .nil) ⟨rfl, (Stp.ext hs843 rfl rfl)⟩
      ·refine WC.condF' rfl hc842 ?_
       refine WC.skip ?_
       refine At.then ?_
       refine WC.seq ?_
       refine WC.region ?_
       obtain ⟨r844, hp845, h⟩ := bnd h
       refine WL.call (vals := []) kok33 rfl rfl (c_histbits_NewRow hp845) ?_
       rintro vr857 wd856 ⟨p846, u847, u848, rfl, hm855, f849, f850, f851, f852, f853, f854⟩
       obtain ⟨O858, hold859, hnew860, hst861⟩ := adoptE O838 (fun k => if k = p846 then 28 else if Value.ownBlock u847 = some k then 29 else if Value.ownBlock u848 = some k then 30 else 1) hm855
       have hf863 : OwnSl 29 Rep.u 22 O858 wd856 u847 r844.last.Pos.Counts := RowF.adopt 29 Flat.u f850 hnew860 (fun k hk => (if_neg (fun (e : k = p846) => f852 (e ▸ hk))).trans (if_pos hk))
       have hf864 : OwnSl 30 Rep.u 22 O858 wd856 u848 r844.last.Neg.Counts := RowF.adopt 30 Flat.u f851 hnew860 (fun k hk => (if_neg (fun (e : k = p846) => f853 (e ▸ hk))).trans ((if_neg (fun (e : Value.ownBlock u847 = some k) => f854 k e hk)).trans (if_pos hk)))
       have hb862 : Blk 28 O858 wd856 p846 88 [vi r844.n, vi r844.last.Scale, vu r844.last.Zero, vi r844.last.Pos.Offset, u847, vi r844.last.Neg.Offset, u848] := Blk.new f849 hnew860 (if_pos rfl)
       refine WL.y (Y.assign rfl) rfl ?_
       refine WL.nil ?_
       refine At.then ?_
       refine WC.seq ?_
       refine WC.seq ?_
       refine WC.region ?_
       refine WL.y (Y.assign rfl) rfl ?_
       refine WL.nil ?_
       refine At.then ?_
       obtain ⟨p875, h, hk876⟩ := flow1 h
       refine WC.join (σ := (List UInt8 × Int × Int × Own × Nat × Value)) (fun x w' => p875 = .go (x.1, x.2.1, x.2.2.1) ∧ Stp [27, 28, 29, 30, 31, 33, 1220, 1221, 1222] O858 wd856 x.2.2.2.1 w' ∧ Sl Rep.b w' (imm x.2.2.2.1) x.2.2.2.2.2 x.1 ∧ Blk 1224 x.2.2.2.1 w' x.2.2.2.2.1 107 [x.2.2.2.2.2, vi x.2.1, vi x.2.2.1]) (fun x => [(12, Value.pointer (some ⟨x.2.2.2.2.1, 0, none⟩))]) ?_ ?_
       ·refine WC.block ?_
        obtain ⟨d877, hd877, h⟩ := bnd h
        obtain ⟨p878, v879, rfl, fb881, f880⟩ := OptP.some f834 hd877
        have hf882 : Sl Rep.b wd836 (frs O838) v879 d877.b := Sl.adoptF f880 (fun k hk => ⟨hk.1, labP_ne hk.2⟩) hnew840
        have hb883 : Blk 27 O838 wd836 p878 107 [v879, vi d877.n, vi d877.at_] := Blk.new fb881 hnew840 (labP_at p878 27)
        obtain ⟨p915, h, hk917⟩ := flow1 h
        obtain ⟨k916, h⟩ := loop_some h
        refine WC.joinB 2 (σ := (List UInt8 × Int × Int × Own × Value)) (fun x w' => p915 = .go (x.1, x.2.1, x.2.2.1) ∧ Stp [27, 28, 29, 30, 31, 33, 1220, 1221, 1222] O858 wd856 x.2.2.2.1 w' ∧ Sl Rep.b w' (imm x.2.2.2.1) x.2.2.2.2 x.1 ∧ Blk 27 x.2.2.2.1 w' p878 107 [x.2.2.2.2, vi x.2.1, vi x.2.2.1]) (fun x => [(12, Value.pointer (some ⟨p878, 0, none⟩))]) ?_ ?_
        ·obtain ⟨O918, hst919, ho920⟩ := OwnSl.rlb 1221 rfl hf863
         have hf921 := hf864.st hst919 rfl rfl rfl
         obtain ⟨O922, hst923, ho924⟩ := OwnSl.rlb 1222 rfl hf921
         have hf925 := ho920.st hst923 rfl rfl rfl
         have hf926 := hb862.st hst919 rfl
         have hf927 := hf926.st hst923 rfl
         have hf928 := hf882.mono (frs_st hst861 rfl)
         have hf929 := hf928.mono (frs_st hst919 rfl)
         have hf930 := hf929.mono (frs_st hst923 rfl)
         have hf931 := hb883.st hst861 rfl
         have hf932 := hf931.st hst919 rfl
         have hf933 := hf932.st hst923 rfl
         refine WC.loop (σ := (Int × Int × UInt64 × Int × List UInt64 × Int × List UInt64 × List UInt8 × Int × Int × Int × Own × Value × Value × Value)) (fun x k w' => loopN k (law10_HistbitsRows_lp2 row120) (x.1, x.2.1, x.2.2.1, x.2.2.2.1, x.2.2.2.2.1, x.2.2.2.2.2.1, x.2.2.2.2.2.2.1, x.2.2.2.2.2.2.2.1, x.2.2.2.2.2.2.2.2.1, x.2.2.2.2.2.2.2.2.2.1, x.2.2.2.2.2.2.2.2.2.2.1) = some p915 ∧ Stp [27, 28, 29, 30, 31, 33, 1220, 1221, 1222] O858 wd856 x.2.2.2.2.2.2.2.2.2.2.2.1 w' ∧ OwnSl 1221 Rep.u 22 x.2.2.2.2.2.2.2.2.2.2.2.1 w' x.2.2.2.2.2.2.2.2.2.2.2.2.1 x.2.2.2.2.1 ∧ OwnSl 1222 Rep.u 22 x.2.2.2.2.2.2.2.2.2.2.2.1 w' x.2.2.2.2.2.2.2.2.2.2.2.2.2.1 x.2.2.2.2.2.2.1 ∧ Blk 28 x.2.2.2.2.2.2.2.2.2.2.2.1 w' p846 88 [vi x.1, vi x.2.1, vu x.2.2.1, vi x.2.2.2.1, x.2.2.2.2.2.2.2.2.2.2.2.2.1, vi x.2.2.2.2.2.1, x.2.2.2.2.2.2.2.2.2.2.2.2.2.1] ∧ Sl Rep.b w' (imm x.2.2.2.2.2.2.2.2.2.2.2.1) x.2.2.2.2.2.2.2.2.2.2.2.2.2.2 x.2.2.2.2.2.2.2.1 ∧ Blk 27 x.2.2.2.2.2.2.2.2.2.2.2.1 w' p878 107 [x.2.2.2.2.2.2.2.2.2.2.2.2.2.2, vi x.2.2.2.2.2.2.2.2.1, vi x.2.2.2.2.2.2.2.2.2.1]) (fun x => [(6, Value.pointer (some ⟨p846, 0, none⟩)), (8, v121), (12, Value.pointer (some ⟨p878, 0, none⟩)), (14, vi x.2.2.2.2.2.2.2.2.2.2.1)]) (r844.n, r844.last.Scale, r844.last.Zero, r844.last.Pos.Offset, r844.last.Pos.Counts, r844.last.Neg.Offset, r844.last.Neg.Counts, d877.b, d877.n, d877.at_, 0, O922, u847, u848, v879) k916 (.cons rfl (.cons rfl (.cons rfl (.cons rfl .nil)))) ⟨h, (Stp.trans (Stp.up hst919 rfl) (Stp.up hst923 rfl)), hf925, ho924, hf927, (Sl.mono hf930 frs_imm), hf933⟩ ?_
         rintro ⟨c885, c886, c887, c888, c889, c892, c893, c897, c900, c901, i902, O903, v890, v894, v898⟩ k916 wd904 ⟨h, hst905, hf891, hf895, hb884, hf899, hb896⟩
         obtain ⟨j934, q935, rfl, h, hn936⟩ := rnd1 h
         unfold law10_HistbitsRows_lp2 at h
         try dsimp only at h hst905 hf891 hf895 hb884 hf899 hb896
         refine (show WC _ _ _ _ [(6, Value.pointer (some ⟨p846, 0, none⟩)), (8, v121), (12, Value.pointer (some ⟨p878, 0, none⟩)), (14, vi i902)] _ from ?_)
         refine WC.seq ?_
         refine WC.seq ?_
         refine WC.region ?_
         refine WL.y (Y.move rfl) rfl ?_
         refine WL.y (Y.move rfl) rfl ?_
         have hf937 := hf122.st hst754 rfl rfl rfl
         have hf938 := hf937.st hst773 rfl rfl rfl
         have hf939 := hf938.st hst791 rfl rfl rfl
         have hf940 := hf939.st hst816 rfl rfl rfl
         have hf941 := hf940.st hst828 rfl rfl rfl
         have hf942 := hf941.st hst841 rfl rfl rfl
         have hf943 := hf942.st hst861 rfl rfl rfl
         have hf944 := hf943.st hst905 rfl rfl rfl
         refine WL.y (Y.len ty45 rfl hf944.src.sl) rfl ?_
         refine WL.y (Y.lss_i rfl rfl) rfl ?_
         refine WL.nil ?_
         refine At.then ?_
         rcases cnd h with ⟨hc945, h⟩ | ⟨hc945, h⟩
         ·refine WC.condT' rfl hc945 ?_
          refine WC.skip ?_
          refine At.then ?_
          refine WC.seq ?_
          refine WC.block ?_
          refine WC.seq ?_
          refine WC.region ?_
          refine WL.y (Y.move rfl) rfl ?_
          refine WL.y (Y.move rfl) rfl ?_
          obtain ⟨⟨r946, r947, r948, r949⟩, hp950, h⟩ := bnd h
          refine WL.call (vals := [Value.pointer (some ⟨p846, 0, none⟩), Value.pointer (some ⟨p878, 0, none⟩)]) kok50 rfl rfl (c_histbits_Row_Get (A := imm O903) (a0 := (histbits_Row.mk c885 (api_Hist.mk c886 c887 (api_Side.mk c888 c889) (api_Side.mk c892 c893)))) (a1 := (bitio_Reader.mk c897 c900 c901)) hf891.row hf895.row hb884.blk hf899 hb896.blk (ne_lab hf891 hb884.lab rfl) (ne_lab hf895 hb884.lab rfl) (ne_blk hb884.lab hb896.lab rfl) (ne_own hf891 hf895 rfl) (ne_lab hf891 hb896.lab rfl) (ne_lab hf895 hb896.lab rfl) (fun k hk => ⟨imm_ne hb884.lab rfl k hk, imm_neV (w := wd904) hf891.labs rfl k hk, imm_neV (w := wd904) hf895.labs rfl k hk, imm_ne hb896.lab rfl k hk⟩) hp950) ?_
          rintro vr971 wd970 ⟨u951, u952, z953, z954, z955, rfl, hm969, f956, f957, f958, f959, f960, f961, f962, f963, f964, f965, f966, f967, f968⟩
          obtain ⟨O972, hold973, hnew974, hst975⟩ := adopt O903 (fun k => if Value.ownBlock u951 = some k then 31 else if Value.ownBlock u952 = some k then 32 else if Value.ownBlock z953 = some k then 1221 else if Value.ownBlock z954 = some k then 1222 else 1) [28, 1221, 1222, 27] hm969 (memOr (memB hb884.lab rfl) (memOr (memV hf891.labs rfl) (memOr (memV hf895.labs rfl) (memB hb896.lab rfl))))
          have hf976 : OwnSl 31 Rep.u 22 O972 wd970 u951 r946.Pos.Counts := RowF.adopt 31 Flat.u f956 hnew974 (fun k hk => if_pos hk)
          have hf977 : OwnSl 32 Rep.u 22 O972 wd970 u952 r946.Neg.Counts := RowF.adopt 32 Flat.u f957 hnew974 (fun k hk => (if_neg (fun (e : Value.ownBlock u951 = some k) => f963 k e hk)).trans (if_pos hk))
          have ho978 : OwnSl 1221 Rep.u 22 O972 wd970 z953 r948.last.Pos.Counts := RowG.adopt Flat.u hf891.labs f958 hold973 hnew974 (fun k hk => (if_neg (fun (e : Value.ownBlock u951 = some k) => f964 k e hk)).trans ((if_neg (fun (e : Value.ownBlock u952 = some k) => f965 k e hk)).trans (if_pos hk)))
          have ho979 : OwnSl 1222 Rep.u 22 O972 wd970 z954 r948.last.Neg.Counts := RowG.adopt Flat.u hf895.labs f959 hold973 hnew974 (fun k hk => (if_neg (fun (e : Value.ownBlock u951 = some k) => f966 k e hk)).trans ((if_neg (fun (e : Value.ownBlock u952 = some k) => f967 k e hk)).trans ((if_neg (fun (e : Value.ownBlock z953 = some k) => f968 k e hk)).trans (if_pos hk))))
          have hb980 : Blk 28 O972 wd970 p846 88 [vi r948.n, vi r948.last.Scale, vu r948.last.Zero, vi r948.last.Pos.Offset, z953, vi r948.last.Neg.Offset, z954] := Blk.adopt hb884 hold973 f960
          have hf981 : Sl Rep.b wd970 (imm O972) z955 r949.b := Sl.adoptIB (O := O903) f961 (fun _ hk => hk) (fun k hk => (if_neg hk.1).trans ((if_neg hk.2.1).trans ((if_neg hk.2.2.1).trans ((if_neg hk.2.2.2).trans rfl)))) hold973 hnew974
          have hb982 : Blk 27 O972 wd970 p878 107 [z955, vi r949.n, vi r949.at_] := Blk.adopt hb896 hold973 f962
          refine WL.y (Y.move rfl) rfl ?_
          refine WL.y (Y.extract rfl rfl) rfl ?_
          refine WL.y (Y.extract rfl rfl) rfl ?_
          refine WL.alloc (O := O972) 33 [vi 0, vu 0, vi 0, Value.slice none 0 0, vi 0, Value.slice none 0 0] ty27 rfl rfl ?_
          intro p984 O985 wd986 hst987 hb983
          have hf988 := hf976.st hst987 rfl rfl rfl
          have hh992 := h
          obtain ⟨p989, m990, c991, rfl⟩ := hf988.shape
          have h := hh992
          have hf993 := hf977.st hst987 rfl rfl rfl
          have hh997 := h
          obtain ⟨p994, m995, c996, rfl⟩ := hf993.shape
          have h := hh997
          refine WL.store (v := Value.agg (List.toArray [vi r946.Scale, vu r946.Zero, vi r946.Pos.Offset, (Value.slice p989 m990 c991), vi r946.Neg.Offset, (Value.slice p994 m995 c996)])) (cells' := [vi r946.Scale, vu r946.Zero, vi r946.Pos.Offset, (Value.slice p989 m990 c991), vi r946.Neg.Offset, (Value.slice p994 m995 c996)]) ty27 rfl rfl hb983 rfl (Nat.le_of_ble_eq_true rfl) rfl rfl ?_
          intro wd998 hst999 hb1000
          refine WL.y (Y.assign rfl) rfl ?_
          refine WL.nil ?_
          refine At.then ?_
          refine WC.seq ?_
          refine WC.seq ?_
          refine WC.drawH [] [0, 1, 2, 3, 4, 5, 6, 7, 8, 9, 10] O985 11 fmix rfl (by kernel_rfl) ?_
          intro wd1001 hst1002
          refine WD.y 0 rfl (by kernel_rfl) (fun _ _ _ => Y.move rfl) rfl ?_
          refine WD.y 1 rfl (by kernel_rfl) (fun _ _ _ => Y.neq_i rfl rfl) rfl ?_
          refine WD.y 2 rfl (by kernel_rfl) (fun _ _ _ => Y.move rfl) rfl ?_
          obtain ⟨p1016, h, hk1017⟩ := bnd h
          refine WD.join (σ := (Bool × Own)) (f' := 0) [10, 9, 8, 7, 6, 5, 4, 3, 2, 1, 0] (fun x O' w' => x.1 = p1016 ∧ Stp [] O985 wd1001 x.2 w' ∧ x.2 = O') (fun x => [(6, Value.pointer (some ⟨p846, 0, none⟩)), (8, v121), (12, Value.pointer (some ⟨p878, 0, none⟩)), (14, vi i902), (15, Value.pointer (some ⟨p984, 0, none⟩)), (125, Value.bool x.1)]) (fun hJ1018 => ?_) ?_
          ·rcases cnd h with ⟨hE1019, h⟩ | ⟨hE1019, h⟩
           ·refine WD.ren 117 rfl (congrArg Value.bool hE1019) ?_
            refine WD.gS 3 rfl (by kernel_rfl) rfl rfl rfl rfl ?_
            refine WD.gS 4 rfl (by kernel_rfl) rfl rfl rfl rfl ?_
            refine WD.gS 5 rfl (by kernel_rfl) rfl rfl rfl rfl ?_
            refine WD.gS 6 rfl (by kernel_rfl) rfl rfl rfl rfl ?_
            refine WD.gS 7 rfl (by kernel_rfl) rfl rfl rfl rfl ?_
            refine WD.heavy 8 rfl (by kernel_rfl) ?_
            refine WL.gS rfl rfl rfl rfl ?_
            refine WL.nil ?_
            refine At.dq (Stp.refl _ _ _) ?_
            refine WD.gS 9 rfl (by kernel_rfl) rfl rfl rfl rfl ?_
            refine WD.y 10 rfl (by kernel_rfl) (fun _ _ _ => Y.pick (b := true) rfl rfl) rfl ?_
            refine WD.ren 117 rfl (congrArg Value.bool hE1019.symm) ?_
            exact hJ1018 (true, O985) _ _ _ ⟨some1 h, (Stp.refl _ _ _), rfl⟩ (.cons rfl (.cons rfl (.cons rfl (.cons rfl (.cons rfl (.cons rfl .nil))))))
           ·refine WD.ren 117 rfl (congrArg Value.bool hE1019) ?_
            refine WD.gT 3 rfl (by kernel_rfl) rfl rfl (fun wd1024 O1023 hst1025 => have hf1026 := hb1000.st hst1002 rfl; have hf1027 := hf1026.st hst1025 rfl; Y.loadAg ty27 rfl rfl (hf1027.cells 0 [vi r946.Scale, vu r946.Zero, vi r946.Pos.Offset, (Value.slice p989 m990 c991), vi r946.Neg.Offset, (Value.slice p994 m995 c996)] rfl) rfl) rfl ?_
            refine WD.gT 4 rfl (by kernel_rfl) rfl rfl (fun _ _ _ => Y.move rfl) rfl ?_
            refine WD.gT 5 rfl (by kernel_rfl) rfl rfl (fun _ _ _ => Y.move rfl) rfl ?_
            obtain ⟨e1034, he1034, h⟩ := bnd h
            have hf1043 := hf944.st hst975 rfl rfl rfl
            have hf1044 := hf1043.st hst987 rfl rfl rfl
            have hf1045 := hf1044.st hst999 rfl rfl rfl
            have hf1046 := hf1045.st hst1002 rfl rfl rfl
            obtain ⟨b1035, cap1042, cs1041, hv1036, hi1037, hl1038, hc1039, hok1040⟩ := OwnSl.at hf1046 he1034
            obtain ⟨_, _, rfl, rfl, ⟨_, _, rfl, rfl, ⟨_, _, rfl, ⟨_, _, rfl, rfl, ⟨v1047, rfl, hf1048⟩⟩, ⟨_, _, rfl, rfl, ⟨v1049, rfl, hf1050⟩⟩⟩⟩⟩ := hok1040
            replace hc1039 : CellsAt _ _ _ [vi e1034.Scale, vu e1034.Zero, vi e1034.Pos.Offset, v1047, vi e1034.Neg.Offset, v1049] := hc1039
            have hca1051 := CAt.own hf1046 hv1036 hc1039
            refine WD.gT 6 rfl (by kernel_rfl) rfl rfl (fun _ _ _ => Y.indexAddr ty45 ty27 rfl hv1036 rfl hi1037 hl1038) rfl ?_
            refine WD.gT 7 rfl (by kernel_rfl) rfl rfl (fun wd1056 O1055 hst1057 => have hf1058 := hca1051.st hst1057 rfl; Y.loadAg ty27 rfl rfl hf1058.at_ rfl) rfl ?_
            refine WD.heavy 8 rfl (by kernel_rfl) ?_
            refine WL.ung rfl rfl ?_
            have hf1059 := hf988.st hst999 rfl rfl rfl
            have hf1060 := hf1059.st hst1002 rfl rfl rfl
            have hf1061 := hf993.st hst999 rfl rfl rfl
            have hf1062 := hf1061.st hst1002 rfl rfl rfl
            obtain ⟨r1063, hp1064, h⟩ := bnd h
            refine WL.call (vals := [Value.agg (List.toArray [vi r946.Scale, vu r946.Zero, vi r946.Pos.Offset, (Value.slice p989 m990 c991), vi r946.Neg.Offset, (Value.slice p994 m995 c996)]), Value.agg (List.toArray [vi e1034.Scale, vu e1034.Zero, vi e1034.Pos.Offset, v1047, vi e1034.Neg.Offset, v1049])]) kok22 rfl rfl (c_ref08_Same (A := fun _ => True) (a0 := r946) (a1 := e1034) (hf1060.src.sl) (hf1062.src.sl) (Sl.all hf1048) (Sl.all hf1050) hp1064) ?_
            rintro vr1067 wd1066 ⟨rfl, hm1065⟩
            obtain ⟨O1068, hold1069, hnew1070, hst1071⟩ := adoptE O985 (fun k => 1) hm1065
            refine WL.nil ?_
            refine At.dq (Stp.up hst1071 rfl) ?_
            refine WD.gT 9 rfl (by kernel_rfl) rfl rfl (fun _ _ _ => Y.not rfl) rfl ?_
            refine WD.y 10 rfl (by kernel_rfl) (fun _ _ _ => Y.pick (b := false) rfl rfl) rfl ?_
            refine WD.ren 117 rfl (congrArg Value.bool hE1019.symm) ?_
            exact hJ1018 ((!r1063), O1068) _ _ _ ⟨some1 h, (Stp.up hst1071 rfl), rfl⟩ (.cons rfl (.cons rfl (.cons rfl (.cons rfl (.cons rfl (.cons rfl .nil))))))
          ·rintro ⟨x1012, O1013⟩ _ wd1014 ⟨rfl, hst1015, rfl⟩
           replace h := hk1017
           try dsimp only at h hst1015
           refine (show WD _ _ _ _ _ _ _ _ [(6, Value.pointer (some ⟨p846, 0, none⟩)), (8, v121), (12, Value.pointer (some ⟨p878, 0, none⟩)), (14, vi i902), (15, Value.pointer (some ⟨p984, 0, none⟩)), (125, Value.bool x1012)] _ _ from ?_)
           refine WD.done_ (by kernel_rfl) ?_
           refine At.then ?_
           rcases cnd h with ⟨hc1078, h⟩ | ⟨hc1078, h⟩
           ·refine WC.condT' rfl hc1078 ?_
            refine WC.seq ?_
            refine WC.region ?_
            refine WL.y (Y.assign rfl) rfl ?_
            refine WL.nil ?_
            refine At.then ?_
            refine WC.ret ?_
            refine At.thenR ?_
            refine At.inBlockR ?_
            refine At.thenR ?_
            refine At.loopR ?_
            have h := outr1 h hn936 hk917
            refine At.joinBR ?_
            refine At.inBlockR ?_
            have h := outs1 h hk876
            refine At.joinR ?_
            refine At.thenR ?_
            obtain rfl := some1 h
            have hs1079 : Stp [12, 13, 14, 15, 16, 17, 18, 19, 20, 21, 23, 25, 27, 28, 29, 30, 31, 33, 1003, 1004, 1012, 1013, 1014, 1015, 1016, 1030, 1031, 1032, 1033, 1034, 1068, 1069, 1070, 1220, 1221, 1222] (Lg.O0 A) w O1013 wd1014 := (Stp.trans (Stp.up hst26 rfl) (Stp.trans (Stp.up hst35 rfl) (Stp.trans (Stp.up hst48 rfl) (Stp.trans (Stp.up hst52 rfl) (Stp.trans (Stp.up hst88 rfl) (Stp.trans (Stp.up hst108 rfl) (Stp.trans (Stp.up hst125 rfl) (Stp.trans (Stp.up hst754 rfl) (Stp.trans (Stp.up hst773 rfl) (Stp.trans (Stp.up hst791 rfl) (Stp.trans (Stp.up hst816 rfl) (Stp.trans (Stp.up hst828 rfl) (Stp.trans (Stp.up hst841 rfl) (Stp.trans (Stp.up hst861 rfl) (Stp.trans (Stp.up hst905 rfl) (Stp.trans (Stp.up hst975 rfl) (Stp.trans (Stp.up hst987 rfl) (Stp.trans (Stp.up hst999 rfl) (Stp.trans (Stp.up hst1002 rfl) (Stp.up hst1015 rfl))))))))))))))))))))
            exact At.res (.inl rfl) rfl (.tmp rfl .nil) ⟨rfl, (Stp.ext hs1079 rfl rfl)⟩
           ·refine WC.condF' rfl hc1078 ?_
            refine WC.skip ?_
            refine At.then ?_
            refine WC.seq ?_
            refine WC.region ?_
            refine WL.y (Y.assign rfl) rfl ?_
            refine WL.nil ?_
            refine At.then ?_
            obtain ⟨p1083, h, hk1084⟩ := bnd h
            refine WC.join (σ := Own) (fun x w' => () = p1083 ∧ Stp [31, 1220] O1013 wd1014 x w') (fun x => [(6, Value.pointer (some ⟨p846, 0, none⟩)), (8, v121), (12, Value.pointer (some ⟨p878, 0, none⟩)), (14, vi i902)]) ?_ ?_
            ·refine WC.block ?_
             obtain ⟨p1095, h, hk1097⟩ := flow1 h
             obtain ⟨k1096, h⟩ := loop_some h
             refine WC.joinB 4 (σ := Own) (fun x w' => p1095 = .go () ∧ Stp [31, 1220] O1013 wd1014 x w') (fun x => [(6, Value.pointer (some ⟨p846, 0, none⟩)), (8, v121), (12, Value.pointer (some ⟨p878, 0, none⟩)), (14, vi i902)]) ?_ ?_
             ·have hf1098 := hf988.st hst999 rfl rfl rfl
              have hf1099 := hf1098.st hst1002 rfl rfl rfl
              have hf1100 := hf1099.st hst1015 rfl rfl rfl
              obtain ⟨O1101, hst1102, ho1103⟩ := OwnSl.rlb 1220 rfl hf1100
              refine WC.loop (σ := (List UInt64 × Int × Own)) (fun x k w' => loopN k (law10_HistbitsRows_lp3) (x.1, x.2.1) = some p1095 ∧ Stp [31, 1220] O1013 wd1014 x.2.2 w' ∧ OwnSl 1220 Rep.u 22 x.2.2 w' (Value.slice p989 m990 c991) x.1) (fun x => [(6, Value.pointer (some ⟨p846, 0, none⟩)), (8, v121), (12, Value.pointer (some ⟨p878, 0, none⟩)), (14, vi i902), (15, Value.pointer (some ⟨p984, 0, none⟩)), (17, vi x.2.1)]) (r946.Pos.Counts, 0, O1101) k1096 (.cons rfl (.cons rfl (.cons rfl (.cons rfl (.cons rfl (.cons rfl .nil)))))) ⟨h, (Stp.up hst1102 rfl), ho1103⟩ ?_
              rintro ⟨c1085, k1088, O1089⟩ k1096 wd1090 ⟨h, hst1091, hf1087⟩
              obtain ⟨j1104, q1105, rfl, h, hn1106⟩ := rnd1 h
              unfold law10_HistbitsRows_lp3 at h
              try dsimp only at h hst1091 hf1087
              refine (show WC _ _ _ _ [(6, Value.pointer (some ⟨p846, 0, none⟩)), (8, v121), (12, Value.pointer (some ⟨p878, 0, none⟩)), (14, vi i902), (15, Value.pointer (some ⟨p984, 0, none⟩)), (17, vi k1088)] _ from ?_)
              refine WC.seq ?_
              refine WC.seq ?_
              refine WC.region ?_
              refine WL.y (Y.move rfl) rfl ?_
              refine WL.y (Y.fieldAddr fo27_2 rfl) rfl ?_
              refine WL.y (Y.fieldAddr fo25_1 rfl) rfl ?_
              have hf1107 := hb1000.st hst1002 rfl
              have hf1108 := hf1107.st hst1015 rfl
              have hf1109 := hf1108.st hst1091 rfl
              refine WL.y (Y.loadSc ty23 rfl rfl (hf1109.cell 3 _ rfl)) rfl ?_
              refine WL.y (Y.len ty23 rfl hf1087.src.sl) rfl ?_
              refine WL.y (Y.lss_i rfl rfl) rfl ?_
              refine WL.nil ?_
              refine At.then ?_
              rcases cnd h with ⟨hc1110, h⟩ | ⟨hc1110, h⟩
              ·refine WC.condT' rfl hc1110 ?_
               refine WC.skip ?_
               refine At.then ?_
               refine WC.seq ?_
               refine WC.block ?_
               refine WC.region ?_
               refine WL.y (Y.fieldAddr fo27_2 rfl) rfl ?_
               refine WL.y (Y.fieldAddr fo25_1 rfl) rfl ?_
               refine WL.y (Y.loadSc ty23 rfl rfl (hf1109.cell 3 _ rfl)) rfl ?_
               refine WL.y (Y.move rfl) rfl ?_
               obtain ⟨e1111, he1111, h⟩ := bnd h
               obtain ⟨b1112, cap1119, cs1118, hv1113, hi1114, hl1115, hc1116, hok1117⟩ := OwnSl.at hf1087 he1111
               obtain rfl := hok1117
               replace hc1116 : CellsAt _ _ _ [vu e1111] := hc1116
               have hca1120 := CAt.own hf1087 hv1113 hc1116
               refine WL.y (Y.indexAddr ty23 ty22 rfl hv1113 rfl hi1114 hl1115) rfl ?_
               obtain ⟨xs1121, hxs1121, h⟩ := bnd h
               refine WL.storeOwn (by decide) ty22 rfl rfl rfl hf1087 hv1113 hxs1121 ?_
               intro wd1122 hst1123 ho1124
               refine WL.nil ?_
               refine At.inBlock ?_
               refine At.then ?_
               refine WC.region ?_
               refine WL.y (Y.move rfl) rfl ?_
               refine WL.y (Y.add_i rfl rfl) rfl ?_
               obtain ⟨k1125, hk1125, h⟩ := lt1 h
               refine WL.yE (Y.assign rfl) (congrArg vi hk1125.symm) rfl ?_
               refine WL.nil ?_
               exact At.round (xs1121, k1125, O1089) j1104 (Nat.lt_succ_self _) ⟨next1 h hn1106, (Stp.trans (Stp.up hst1091 rfl) (Stp.up hst1123 rfl)), ho1124⟩ (.cons rfl (.cons rfl (.cons rfl (.cons rfl (.cons rfl (.cons rfl .nil))))))
              ·refine WC.condF' rfl hc1110 ?_
               refine WC.exit ?_
               refine At.thenX ?_
               refine At.loopX ?_
               exact At.hitB (σ := Own) O1089 ⟨brk1 h hn1106, (Stp.up hst1091 rfl)⟩ (.cons rfl (.cons rfl (.cons rfl (.cons rfl .nil))))
             ·rintro O1092 wd1093 ⟨rfl, hst1094⟩
              replace h := flowK_go hk1097
              refine (show At _ _ _ [(6, Value.pointer (some ⟨p846, 0, none⟩)), (8, v121), (12, Value.pointer (some ⟨p878, 0, none⟩)), (14, vi i902)] _ from ?_)
              refine At.inBlockHit ?_
              exact At.join (σ := Own) O1092 ⟨some1 h, (Stp.up hst1094 rfl)⟩ (.cons rfl (.cons rfl (.cons rfl (.cons rfl .nil))))
            ·rintro O1080 wd1081 ⟨rfl, hst1082⟩
             replace h := hk1084
             refine (show At _ _ _ [(6, Value.pointer (some ⟨p846, 0, none⟩)), (8, v121), (12, Value.pointer (some ⟨p878, 0, none⟩)), (14, vi i902)] _ from ?_)
             refine At.inBlock ?_
             refine At.then ?_
             refine WC.region ?_
             refine WL.y (Y.move rfl) rfl ?_
             refine WL.y (Y.add_i rfl rfl) rfl ?_
             obtain ⟨i1126, hi1126, h⟩ := lt1 h
             refine WL.yE (Y.assign rfl) (congrArg vi hi1126.symm) rfl ?_
             refine WL.nil ?_
             have hf1127 := ho978.st hst987 rfl rfl rfl
             have hf1128 := hf1127.st hst999 rfl rfl rfl
             have hf1129 := hf1128.st hst1002 rfl rfl rfl
             have hf1130 := hf1129.st hst1015 rfl rfl rfl
             have hf1131 := hf1130.st hst1082 rfl rfl rfl
             have hf1132 := ho979.st hst987 rfl rfl rfl
             have hf1133 := hf1132.st hst999 rfl rfl rfl
             have hf1134 := hf1133.st hst1002 rfl rfl rfl
             have hf1135 := hf1134.st hst1015 rfl rfl rfl
             have hf1136 := hf1135.st hst1082 rfl rfl rfl
             have hf1137 := hb980.st hst987 rfl
             have hf1138 := hf1137.st hst999 rfl
             have hf1139 := hf1138.st hst1002 rfl
             have hf1140 := hf1139.st hst1015 rfl
             have hf1141 := hf1140.st hst1082 rfl
             have hf1142 := hf981.mono (imm_st hst987 rfl rfl)
             have hf1143 := hf1142.mono (imm_st hst999 rfl rfl)
             have hf1144 := hf1143.mono (imm_st hst1002 rfl rfl)
             have hf1145 := hf1144.mono (imm_st hst1015 rfl rfl)
             have hf1146 := hf1145.mono (imm_st hst1082 rfl rfl)
             have hf1147 := hb982.st hst987 rfl
             have hf1148 := hf1147.st hst999 rfl
             have hf1149 := hf1148.st hst1002 rfl
             have hf1150 := hf1149.st hst1015 rfl
             have hf1151 := hf1150.st hst1082 rfl
             exact At.round (r948.n, r948.last.Scale, r948.last.Zero, r948.last.Pos.Offset, r948.last.Pos.Counts, r948.last.Neg.Offset, r948.last.Neg.Counts, r949.b, r949.n, r949.at_, i1126, O1080, z953, z954, z955) j934 (Nat.lt_succ_self _) ⟨next1 h hn936, (Stp.trans (Stp.up hst905 rfl) (Stp.trans (Stp.up hst975 rfl) (Stp.trans (Stp.up hst987 rfl) (Stp.trans (Stp.up hst999 rfl) (Stp.trans (Stp.up hst1002 rfl) (Stp.trans (Stp.up hst1015 rfl) (Stp.up hst1082 rfl))))))), hf1131, hf1136, hf1141, hf1146, hf1151⟩ (.cons rfl (.cons rfl (.cons rfl (.cons rfl .nil))))
         ·refine WC.condF' rfl hc945 ?_
          refine WC.exit ?_
          refine At.thenX ?_
          refine At.loopX ?_
          exact At.hitB (σ := (List UInt8 × Int × Int × Own × Value)) (c897, c900, c901, O903, v898) ⟨brk1 h hn936, (Stp.up hst905 rfl), hf899, hb896⟩ (.cons rfl .nil)
        ·rintro ⟨c907, c910, c911, O912, v908⟩ wd913 ⟨rfl, hst914, hf909, hb906⟩
         replace h := flowK_go hk917
         try dsimp only at h hst914 hf909 hb906
         refine (show At _ _ _ [(12, Value.pointer (some ⟨p878, 0, none⟩))] _ from ?_)
         refine At.inBlockHit ?_
         obtain ⟨O1152, hst1153, hb1154⟩ := Blk.rlb 1224 rfl hb906
         have hf1155 := hf909.mono (imm_st hst1153 rfl rfl)
         exact At.join (σ := (List UInt8 × Int × Int × Own × Nat × Value)) (c907, c910, c911, O1152, p878, v908) ⟨go2 h, (Stp.trans (Stp.up hst914 rfl) (Stp.up hst1153 rfl)), hf1155, hb1154⟩ (.cons rfl .nil)
       ·rintro ⟨c867, c870, c871, O872, b865, v868⟩ wd873 ⟨rfl, hst874, hf869, hb866⟩
        replace h := flowK_go hk876
        try dsimp only at h hst874 hf869 hb866
        refine (show At _ _ _ [(12, Value.pointer (some ⟨b865, 0, none⟩))] _ from ?_)
        refine At.then ?_
        refine WC.seq ?_
        refine WC.region ?_
        refine WL.y (Y.move rfl) rfl ?_
        obtain ⟨r1156, hp1157, h⟩ := bnd h
        refine WL.call (vals := [Value.pointer (some ⟨b865, 0, none⟩)]) kok56 rfl rfl (c_bitio_Reader_Left (A := fun _ => True) (a0 := (bitio_Reader.mk c867 c870 c871)) (Sl.all hf869) hb866.blk trivial hp1157) ?_
        rintro vr1160 wd1159 ⟨rfl, hm1158⟩
        obtain ⟨O1161, hold1162, hnew1163, hst1164⟩ := adoptE O872 (fun k => 1) hm1158
        refine WL.y (Y.eql_i rfl rfl) rfl ?_
        obtain ⟨t1165, ht1165, h⟩ := lt1 h
        refine WL.yE (Y.assign rfl) (congrArg Value.bool ht1165.symm) rfl ?_
        refine WL.nil ?_
        refine At.then ?_
        refine WC.ret ?_
        obtain rfl := some1 h
        have hs1166 : Stp [12, 13, 14, 15, 16, 17, 18, 19, 20, 21, 23, 25, 27, 28, 29, 30, 31, 33, 1003, 1004, 1012, 1013, 1014, 1015, 1016, 1030, 1031, 1032, 1033, 1034, 1068, 1069, 1070, 1220, 1221, 1222] (Lg.O0 A) w O1161 wd1159 := (Stp.trans (Stp.up hst26 rfl) (Stp.trans (Stp.up hst35 rfl) (Stp.trans (Stp.up hst48 rfl) (Stp.trans (Stp.up hst52 rfl) (Stp.trans (Stp.up hst88 rfl) (Stp.trans (Stp.up hst108 rfl) (Stp.trans (Stp.up hst125 rfl) (Stp.trans (Stp.up hst754 rfl) (Stp.trans (Stp.up hst773 rfl) (Stp.trans (Stp.up hst791 rfl) (Stp.trans (Stp.up hst816 rfl) (Stp.trans (Stp.up hst828 rfl) (Stp.trans (Stp.up hst841 rfl) (Stp.trans (Stp.up hst861 rfl) (Stp.trans (Stp.up hst874 rfl) (Stp.up hst1164 rfl))))))))))))))))
        exact At.res (.inl rfl) rfl (.tmp rfl .nil) ⟨rfl, (Stp.ext hs1166 rfl rfl)⟩
end Go.Lg
