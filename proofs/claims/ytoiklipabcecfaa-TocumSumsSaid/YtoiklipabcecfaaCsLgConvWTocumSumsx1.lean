/- The walks of TocumSums and of what it calls, printed by gen.py. -/
import Derived.Test.YtoiklipabcecfaaCsLgConvWTocumSumsx0
set_option linter.unusedVariables false
namespace Go.Lg
open Go Go.Proofs
set_option maxRecDepth 100000
set_option maxHeartbeats 4000000
theorem c_fold_Merge {A : Nat → Prop} {v0_3 : Value} {v0_5 : Value} {a0 : api_Hist} {v1_3 : Value} {v1_5 : Value} {a1 : api_Hist} {w : World} (hs0_3 : Sl Rep.u w A v0_3 a0.Pos.Counts) (hs0_5 : Sl Rep.u w A v0_5 a0.Neg.Counts) (hs1_3 : Sl Rep.u w A v1_3 a1.Pos.Counts) (hs1_5 : Sl Rep.u w A v1_5 a1.Neg.Counts) {r0 : api_Hist} {r1 : Int} (h : fold_Merge a0 a1 = some (r0, r1)) : Rets Try.prog 32 [ag [vi a0.Scale, vu a0.Zero, vi a0.Pos.Offset, v0_3, vi a0.Neg.Offset, v0_5], ag [vi a1.Scale, vu a1.Zero, vi a1.Pos.Offset, v1_3, vi a1.Neg.Offset, v1_5]] w (fun v w' => ∃ (cJ : Value) (cK : Value), v = Value.tuple (List.toArray [ag [vi r0.Scale, vu r0.Zero, vi r0.Pos.Offset, cJ, vi r0.Neg.Offset, cK], vi r1]) ∧ Ext w w' ∧ Sl Rep.u w' (fun k => w.heap.size ≤ k) cJ r0.Pos.Counts ∧ Sl Rep.u w' (fun k => w.heap.size ≤ k) cK r0.Neg.Counts) := by
 unfold fold_Merge at h
 refine Rets.enter Try.func32 z z ?_
 have cL : Sl Rep.u w (imm (Lg.O0 A)) v0_3 a0.Pos.Counts := (Sl.start hs0_3)
 have cM : Sl Rep.u w (imm (Lg.O0 A)) v0_5 a0.Neg.Counts := (Sl.start hs0_5)
 have iZ : Sl Rep.u w (imm (Lg.O0 A)) v1_3 a1.Pos.Counts := (Sl.start hs1_3)
 have i0 : Sl Rep.u w (imm (Lg.O0 A)) v1_5 a1.Neg.Counts := (Sl.start hs1_5)
 refine (show WC _ _ _ _ [(0, ag [vi a0.Scale, vu a0.Zero, vi a0.Pos.Offset, v0_3, vi a0.Neg.Offset, v0_5]), (1, ag [vi a1.Scale, vu a1.Zero, vi a1.Pos.Offset, v1_3, vi a1.Neg.Offset, v1_5])] _ from ?_)
 refine sq (rg ?_)
 have i1 := h
 obtain ⟨cN, cO, cP, rfl⟩ := cL.shape
 have h := i1
 have i2 := h
 obtain ⟨cQ, cR, cS, rfl⟩ := cM.shape
 have h := i2
 refine WL.box (O := (Lg.O0 A)) 11 [vi a0.Scale, vu a0.Zero, vi a0.Pos.Offset, (Value.slice cN cO cP), vi a0.Neg.Offset, (Value.slice cQ cR cS)] z z z ?_
 intro mC ky lQ av i3
 have cT := iZ.i av z z
 have i4 := h
 obtain ⟨cU, cV, cW, rfl⟩ := cT.shape
 have h := i4
 have cX := i0.i av z z
 have i5 := h
 obtain ⟨cY, cZ, c0, rfl⟩ := cX.shape
 have h := i5
 refine WL.box (O := ky) 12 [vi a1.Scale, vu a1.Zero, vi a1.Pos.Offset, (Value.slice cU cV cW), vi a1.Neg.Offset, (Value.slice cY cZ c0)] z z z ?_
 intro mD kz lR aj i6
 refine WL.alloc (O := kz) 13 [vi 0, vu 0, vi 0, Value.slice none 0 0, vi 0, Value.slice none 0 0] ty30 z z ?_
 intro X kA lS Z aU
 refine wY (ya z) z (nl (th (sq (rg ?_))))
 have i7 := i3.st aj z
 have i8 := i7.st Z z
 refine wY (yL ty30 z z (i8.cells 0 [vi a0.Scale, vu a0.Zero, vi a0.Pos.Offset, (Value.slice cN cO cP), vi a0.Neg.Offset, (Value.slice cQ cR cS)] z) z) z ?_
 have i9 := i6.st Z z
 refine wY (yL ty30 z z (i9.cells 0 [vi a1.Scale, vu a1.Zero, vi a1.Pos.Offset, (Value.slice cU cV cW), vi a1.Neg.Offset, (Value.slice cY cZ c0)] z) z) z ?_
 have ja := cL.i av z z
 have jb := ja.i aj z z
 have jc := jb.i Z z z
 have jd := cM.i av z z
 have je := jd.i aj z z
 have jf := je.i Z z z
 have jg := cT.i aj z z
 have jh := jg.i Z z z
 have ji := cX.i aj z z
 have jj := ji.i Z z z
 obtain ⟨⟨d, j, mE⟩, jk, h⟩ := bnd h
 refine WL.call (vals := [ag [vi a0.Scale, vu a0.Zero, vi a0.Pos.Offset, (Value.slice cN cO cP), vi a0.Neg.Offset, (Value.slice cQ cR cS)], ag [vi a1.Scale, vu a1.Zero, vi a1.Pos.Offset, (Value.slice cU cV cW), vi a1.Neg.Offset, (Value.slice cY cZ c0)]]) kok52 z z (c_fold_Level (A := fun _ => True) (a0 := a0) (a1 := a1) (Sl.all jc) (Sl.all jf) (Sl.all jh) (Sl.all jj) jk) ?_
 rintro lT bg ⟨kB, kC, kD, kE, rfl, jl, kF, kG, kH, kI⟩
 obtain ⟨bY, kJ, aC, ak⟩ := adoptE kA (fun k => 1) jl
 have jm : Sl Rep.u bg (frs bY) kB d.Pos.Counts := Sl.adoptF kF (fun k hk => ⟨hk, z⟩) aC
 have jn : Sl Rep.u bg (frs bY) kC d.Neg.Counts := Sl.adoptF kG (fun k hk => ⟨hk, z⟩) aC
 have jo : Sl Rep.u bg (frs bY) kD j.Pos.Counts := Sl.adoptF kH (fun k hk => ⟨hk, z⟩) aC
 have jp : Sl Rep.u bg (frs bY) kE j.Neg.Counts := Sl.adoptF kI (fun k hk => ⟨hk, z⟩) aC
 refine wY (ym z) z (wY (yx z z) z (wY (yx z z) z (wY (yx z z) z (WL.alloc (O := bY) 14 [vi 0, vu 0, vi 0, Value.slice none 0 0, vi 0, Value.slice none 0 0] ty30 z z ?_))))
 intro mF kK lU K jq
 refine WL.alloc (O := kK) 15 [vi 0, vu 0, vi 0, Value.slice none 0 0, vi 0, Value.slice none 0 0] ty30 z z ?_
 intro mG iY lV F jr
 have js := jm.f K z
 have c1 := js.f F z
 have jt := h
 obtain ⟨aq, ar, au, rfl⟩ := c1.shape
 have h := jt
 have dE := jn.f K z
 have ca := dE.f F z
 have dF := h
 obtain ⟨L, M, P, rfl⟩ := ca.shape
 have h := dF
 have dG := jq.st F z
 refine WL.store (v := ag [vi d.Scale, vu d.Zero, vi d.Pos.Offset, (Value.slice aq ar au), vi d.Neg.Offset, (Value.slice L M P)]) (cells' := [vi d.Scale, vu d.Zero, vi d.Pos.Offset, (Value.slice aq ar au), vi d.Neg.Offset, (Value.slice L M P)]) ty30 z z dG z (le_ z) z z ?_
 intro kP o dH
 have dI := jo.f K z
 have dJ := dI.f F z
 have cb := dJ.f o z
 have dK := h
 obtain ⟨Q, S, T, rfl⟩ := cb.shape
 have h := dK
 have dL := jp.f K z
 have dM := dL.f F z
 have cc := dM.f o z
 have dN := h
 obtain ⟨U, V, W, rfl⟩ := cc.shape
 have h := dN
 have dO := jr.st o z
 refine WL.store (v := ag [vi j.Scale, vu j.Zero, vi j.Pos.Offset, (Value.slice Q S T), vi j.Neg.Offset, (Value.slice U V W)]) (cells' := [vi j.Scale, vu j.Zero, vi j.Pos.Offset, (Value.slice Q S T), vi j.Neg.Offset, (Value.slice U V W)]) ty30 z z dO z (le_ z) z z ?_
 intro kQ t dP
 refine wY (ya z) z (nl (th (sq (sq (rg (wY (ym z) z (wY (Y.neq_i z z) z (nl (th ?_)))))))))
 rcases cnd h with ⟨bh, h⟩ | ⟨bh, h⟩
 ·refine WC.condT' z bh (sq (rg (wY (yb (vals := []) (cells := [vi 0, vu 0, vi 0, Value.slice none 0 0, vi 0, Value.slice none 0 0]) (fe_ z) (by kernel_rfl)) z (wY (ym z) z ?_))))
  have dQ := aU.st ak z
  have dR := dQ.st K z
  have dS := dR.st F z
  have dT := dS.st o z
  have dU := dT.st t z
  refine WL.store (v := ag [vi 0, vu 0, vi 0, Value.slice none 0 0, vi 0, Value.slice none 0 0]) (cells' := [vi 0, vu 0, vi 0, Value.slice none 0 0, vi 0, Value.slice none 0 0]) ty30 z z dU z (le_ z) z z ?_
  intro dV c2 dW
  refine wY (ya z) z (nl (th (rt (At.thenR ?_))))
  obtain ⟨rfl, rfl⟩ := tup2 h
  have dX : Stp [13, 14, 15] (Lg.O0 A) w iY dV := (tr_ (su_ av z) (tr_ (su_ aj z) (tr_ (su_ Z z) (tr_ (su_ ak z) (tr_ (su_ K z) (tr_ (su_ F z) (tr_ (su_ o z) (tr_ (su_ t z) (su_ c2 z)))))))))
  exact At.res (.inl z) z (.cell z (dW.runAg 0 [vi 0, vu 0, vi 0, Value.slice none 0 0, vi 0, Value.slice none 0 0] ty30 z z z) (.tmp z .nil)) ⟨Value.slice none 0 0, Value.slice none 0 0, z, (se_ dX z z), (Or.inl ⟨z, z⟩), (Or.inl ⟨z, z⟩)⟩
 ·refine WC.condF' z bh (sk (th (sq (rg ?_))))
  have cd := dH.st t z
  refine wY (yL ty30 z z (cd.cells 0 [vi d.Scale, vu d.Zero, vi d.Pos.Offset, (Value.slice aq ar au), vi d.Neg.Offset, (Value.slice L M P)] z) z) z ?_
  have dY := c1.f o z
  have ce := dY.f t z
  have dZ := ca.f o z
  have cf := dZ.f t z
  obtain ⟨⟨lW, lX⟩, d0, h⟩ := bnd h
  refine WL.call (vals := [ag [vi d.Scale, vu d.Zero, vi d.Pos.Offset, (Value.slice aq ar au), vi d.Neg.Offset, (Value.slice L M P)]]) kok27 z z (c_hist_Total (A := fun _ => True) (a0 := d) (Sl.all ce) (Sl.all cf) d0) ?_
  rintro kR kS ⟨rfl, d1⟩
  obtain ⟨ju, kh, ki, C⟩ := adoptE iY (fun k => 1) d1
  refine wY (ym z) z (wY (yx z z) z (wY (yx z z) z (wY (ya z) z (wY (ya z) z (nl (th (sq (rg ?_))))))))
  have cg := dP.st C z
  refine wY (yL ty30 z z (cg.cells 0 [vi j.Scale, vu j.Zero, vi j.Pos.Offset, (Value.slice Q S T), vi j.Neg.Offset, (Value.slice U V W)] z) z) z ?_
  have d2 := cb.f t z
  have ch := d2.f C z
  have d3 := cc.f t z
  have ci := d3.f C z
  obtain ⟨⟨lY, lZ⟩, d4, h⟩ := bnd h
  refine WL.call (vals := [ag [vi j.Scale, vu j.Zero, vi j.Pos.Offset, (Value.slice Q S T), vi j.Neg.Offset, (Value.slice U V W)]]) kok27 z z (c_hist_Total (A := fun _ => True) (a0 := j) (Sl.all ch) (Sl.all ci) d4) ?_
  rintro kT kU ⟨rfl, d5⟩
  obtain ⟨c3, kj, kk, D⟩ := adoptE ju (fun k => 1) d5
  refine wY (ym z) z (wY (yx z z) z (wY (yx z z) z (wY (ya z) z (wY (ya z) z (nl (th (sq (sq (rg ?_)))))))))
  refine wY (ym z) z (wY (ym z) z (wY (Y.add64 (c := 0) x64_58 (by decide) z z z) z (wY (ym z) z (wY (yx z z) z (wY (yx z z) z ?_)))))
  obtain ⟨l0, d6, h⟩ := lt1 h
  refine WL.yE (ya z) (congrArg vu d6.symm) z ?_
  obtain ⟨jv, bZ, h⟩ := lt1 h
  refine WL.yE (ya z) (congrArg vu bZ.symm) z (nl (th (sq (rg (wY (ym z) z (wY (Y.neq_u (b := 0) z z) z (nl (th ?_))))))))
  rcases cnd h with ⟨bi, h⟩ | ⟨bi, h⟩
  ·refine WC.condT' z bi (sq (rg (wY (yb (vals := []) (cells := [vi 0, vu 0, vi 0, Value.slice none 0 0, vi 0, Value.slice none 0 0]) (fe_ z) (by kernel_rfl)) z ?_)))
   have d7 := aU.st ak z
   have d8 := d7.st K z
   have d9 := d8.st F z
   have ea := d9.st o z
   have eb := ea.st t z
   have ec := eb.st C z
   have ed := ec.st D z
   refine WL.store (v := ag [vi 0, vu 0, vi 0, Value.slice none 0 0, vi 0, Value.slice none 0 0]) (cells' := [vi 0, vu 0, vi 0, Value.slice none 0 0, vi 0, Value.slice none 0 0]) ty30 z z ed z (le_ z) z z ?_
   intro ee c4 ef
   refine wY (ya z) z (nl (th (rt (At.thenR ?_))))
   obtain ⟨rfl, rfl⟩ := tup2 h
   have eg : Stp [13, 14, 15] (Lg.O0 A) w c3 ee := (tr_ (su_ av z) (tr_ (su_ aj z) (tr_ (su_ Z z) (tr_ (su_ ak z) (tr_ (su_ K z) (tr_ (su_ F z) (tr_ (su_ o z) (tr_ (su_ t z) (tr_ (su_ C z) (tr_ (su_ D z) (su_ c4 z)))))))))))
   exact At.res (.inl z) z (.cell z (ef.runAg 0 [vi 0, vu 0, vi 0, Value.slice none 0 0, vi 0, Value.slice none 0 0] ty30 z z z) (.tmp z .nil)) ⟨Value.slice none 0 0, Value.slice none 0 0, z, (se_ eg z z), (Or.inl ⟨z, z⟩), (Or.inl ⟨z, z⟩)⟩
  ·refine WC.condF' z bi (sk (th (sq (rg (wY (yf fo30_0 z) z ?_)))))
   have eh := cd.st C z
   have bj := eh.st D z
   refine wY (yl ty3 z z (bj.cell 0 _ z)) z (wY (yf fo30_1 z) z (wY (yl ty25 z z (bj.cell 1 _ z)) z (wY (yf fo30_1 z) z ?_)))
   have cj := cg.st D z
   refine wY (yl ty25 z z (cj.cell 1 _ z)) z (wY (Y.add_u z z) z (wY (yb (vals := [(0, vi d.Scale), (1, vu (d.Zero + j.Zero))]) (cells := [vi d.Scale, vu (d.Zero + j.Zero), vi 0, Value.slice none 0 0, vi 0, Value.slice none 0 0]) (fe_ z) (by kernel_rfl)) z (WL.alloc (O := c3) 16 [vi 0, vu 0, vi 0, Value.slice none 0 0, vi 0, Value.slice none 0 0] ty30 z z ?_)))
   intro l jw kV G ei
   refine WL.store (v := ag [vi d.Scale, vu (d.Zero + j.Zero), vi 0, Value.slice none 0 0, vi 0, Value.slice none 0 0]) (cells' := [vi d.Scale, vu (d.Zero + j.Zero), vi 0, Value.slice none 0 0, vi 0, Value.slice none 0 0]) ty30 z z ei z (le_ z) z z ?_
   intro kW H bk
   refine nl (th (sq (sq (rg (wY (yf fo30_2 z) z (wY (yf fo30_2 z) z ?_))))))
   have ej := bj.st G z
   have ck := ej.st H z
   refine wY (yL ty28 z z (ck.cells 2 [vi d.Pos.Offset, (Value.slice aq ar au)] z) z) z (wY (yf fo30_2 z) z ?_)
   have ek := cj.st G z
   have cl := ek.st H z
   refine wY (yL ty28 z z (cl.cells 2 [vi j.Pos.Offset, (Value.slice Q S T)] z) z) z (wY (yb (vals := [(0, pt l 2), (1, ag [vi d.Pos.Offset, (Value.slice aq ar au)]), (2, ag [vi j.Pos.Offset, (Value.slice Q S T)])]) (cells := [pt l 2, vi d.Pos.Offset, (Value.slice aq ar au), vi j.Pos.Offset, (Value.slice Q S T)]) (fe_ z) (by kernel_rfl)) z (wY (yf fo30_3 z) z (wY (yf fo30_3 z) z (wY (yL ty28 z z (ck.cells 4 [vi d.Neg.Offset, (Value.slice L M P)] z) z) z (wY (yf fo30_3 z) z (wY (yL ty28 z z (cl.cells 4 [vi j.Neg.Offset, (Value.slice U V W)] z) z) z (wY (yb (vals := [(0, pt l 4), (1, ag [vi d.Neg.Offset, (Value.slice L M P)]), (2, ag [vi j.Neg.Offset, (Value.slice U V W)])]) (cells := [pt l 4, vi d.Neg.Offset, (Value.slice L M P), vi j.Neg.Offset, (Value.slice U V W)]) (fe_ z) (by kernel_rfl)) z (WL.buildLit (O := jw) (vals := [(0, ag [pt l 2, vi d.Pos.Offset, (Value.slice aq ar au), vi j.Pos.Offset, (Value.slice Q S T)]), (1, ag [pt l 4, vi d.Neg.Offset, (Value.slice L M P), vi j.Neg.Offset, (Value.slice U V W)])]) 17 [pt l 2, vi d.Pos.Offset, (Value.slice aq ar au), vi j.Pos.Offset, (Value.slice Q S T), pt l 4, vi d.Neg.Offset, (Value.slice L M P), vi j.Neg.Offset, (Value.slice U V W)] ty95 ty94 (by decide) (by decide) (fe_ z) (by kernel_rfl) z ?_))))))))
   intro m c5 em E cm
   refine WL.yE (Y.lenv ty95 z) (show vi ((2 : Nat) : Int) = vi 2 from z) z (wY (ym z) z (nl (th (WC.block (WC.unroll 2 (sq (rg (WL.yE (Y.lss_i z z) (congrArg vB (by decide : decide ((0 : Int) < (2 : Int)) = true)) z (nl ?_)))))))))
   refine th (sq (WC.condT z (sk (th (sq ?_)))))
   obtain ⟨jx, h, cn⟩ := flow1 h
   refine WC.join (σ := (Int × List UInt64 × Own × Value)) (fun x w' => jx = .go (x.1, x.2.1) ∧ Stp [16, 18, 19, 20, 1001, 1002, 1003, 1005] c5 em x.2.2.1 w' ∧ OwnSl 1008 Rep.u 25 x.2.2.1 w' x.2.2.2 x.2.1 ∧ Blk 16 x.2.2.1 w' l 30 [vi d.Scale, vu (d.Zero + j.Zero), vi x.1, x.2.2.2, vi 0, Value.slice none 0 0]) (fun x => [(4, pt X 0), (15, pt l 0), (71, Value.slice (some ⟨m, 0, none⟩) 2 2), (72, vi 2), (73, vi 0)]) ?_ ?_
   ·refine WC.block (sq (rg (WL.yE (Y.indexAddr ty95 ty94 z z z (by decide) (by decide)) (show (Value.pointer (some ⟨m, 0 + (0 : Int).toNat * 5, none⟩)) = .pointer (some ⟨m, 0, none⟩) from z) z (wY (yL ty94 z z (cm.cells 0 [pt l 2, vi d.Pos.Offset, (Value.slice aq ar au), vi j.Pos.Offset, (Value.slice Q S T)] z) z) z (WL.alloc (O := c5) 18 [Value.pointer none, vi 0, Value.slice none 0 0, vi 0, Value.slice none 0 0] ty94 z z ?_)))))
    intro bl jy kX aa en
    refine WL.store (v := ag [pt l 2, vi d.Pos.Offset, (Value.slice aq ar au), vi j.Pos.Offset, (Value.slice Q S T)]) (cells' := [pt l 2, vi d.Pos.Offset, (Value.slice aq ar au), vi j.Pos.Offset, (Value.slice Q S T)]) ty94 z z en z (le_ z) z z ?_
    intro kY ab aD
    refine nl (th (sq (rg (wY (yf fo94_1 z) z (wY (yL ty28 z z (aD.cells 1 [vi d.Pos.Offset, (Value.slice aq ar au)] z) z) z (wY (yf fo94_2 z) z (wY (yL ty28 z z (aD.cells 3 [vi j.Pos.Offset, (Value.slice Q S T)] z) z) z ?_)))))))
    have eo := ce.f C z
    have ep := eo.f D z
    have es := ep.f G z
    have et := es.f H z
    have eu := et.f E z
    have ew := eu.f aa z
    have co := ew.f ab z
    have ex := ch.f D z
    have ey := ex.f G z
    have ez := ey.f H z
    have eA := ez.f E z
    have eB := eA.f aa z
    have cp := eB.f ab z
    obtain ⟨⟨ac, l1⟩, eC, h⟩ := bnd h
    refine WL.call (vals := [ag [vi d.Pos.Offset, (Value.slice aq ar au)], ag [vi j.Pos.Offset, (Value.slice Q S T)]]) kok61 z z (c_fold_cover (A := fun _ => True) (a0 := d.Pos) (a1 := j.Pos) (Sl.all co) (Sl.all cp) eC) ?_
    rintro kZ k0 ⟨rfl, eD⟩
    obtain ⟨aI, km, kn, I⟩ := adoptE jy (fun k => 1) eD
    refine wY (ym z) z (wY (yx z z) z (wY (yx z z) z (wY (ya z) z (wY (ya z) z (nl (th (sq (sq (rg ?_)))))))))
    refine wY (ym z) z (wY (Y.gtr_i z z) z (nl (th ?_)))
    rcases cnd h with ⟨bm, h⟩ | ⟨bm, h⟩
    ·refine WC.condT' z bm (sq (rg (wY (yb (vals := []) (cells := [vi 0, vu 0, vi 0, Value.slice none 0 0, vi 0, Value.slice none 0 0]) (fe_ z) (by kernel_rfl)) z ?_)))
     have eE := aU.st ak z
     have eF := eE.st K z
     have eG := eF.st F z
     have eH := eG.st o z
     have eI := eH.st t z
     have eJ := eI.st C z
     have eK := eJ.st D z
     have eL := eK.st G z
     have eM := eL.st H z
     have eN := eM.st E z
     have eO := eN.st aa z
     have eP := eO.st ab z
     have eQ := eP.st I z
     refine WL.store (v := ag [vi 0, vu 0, vi 0, Value.slice none 0 0, vi 0, Value.slice none 0 0]) (cells' := [vi 0, vu 0, vi 0, Value.slice none 0 0, vi 0, Value.slice none 0 0]) ty30 z z eQ z (le_ z) z z ?_
     intro eR c6 eS
     refine wY (ya z) z (nl (th (rt (At.thenR (At.inBlockR ?_)))))
     have h := outs1 h cn
     refine At.joinR (At.thenR (At.thenR (At.inBlockR (At.thenR ?_))))
     obtain ⟨rfl, rfl⟩ := tup2 h
     have eT : Stp [13, 14, 15, 16, 18] (Lg.O0 A) w aI eR := (tr_ (su_ av z) (tr_ (su_ aj z) (tr_ (su_ Z z) (tr_ (su_ ak z) (tr_ (su_ K z) (tr_ (su_ F z) (tr_ (su_ o z) (tr_ (su_ t z) (tr_ (su_ C z) (tr_ (su_ D z) (tr_ (su_ G z) (tr_ (su_ H z) (tr_ (su_ E z) (tr_ (su_ aa z) (tr_ (su_ ab z) (tr_ (su_ I z) (su_ c6 z)))))))))))))))))
     exact At.res (.inl z) z (.cell z (eS.runAg 0 [vi 0, vu 0, vi 0, Value.slice none 0 0, vi 0, Value.slice none 0 0] ty30 z z z) (.tmp z .nil)) ⟨Value.slice none 0 0, Value.slice none 0 0, z, (se_ eT z z), (Or.inl ⟨z, z⟩), (Or.inl ⟨z, z⟩)⟩
    ·refine WC.condF' z bm (sk (th (sq (sq (rg (wY (ym z) z (wY (Y.eql_i z z) z (nl (th ?_)))))))))
     rcases cnd h with ⟨bn, h⟩ | ⟨bn, h⟩
     ·refine WC.condT' z bn (WC.exit (At.thenX (At.inBlockHit ?_)))
      have eU := bk.st E z
      have eV := eU.st aa z
      have eW := eV.st ab z
      have eX := eW.st I z
      exact At.join (σ := (Int × List UInt64 × Own × Value)) (0, [], aI, Value.slice none 0 0) ⟨go2 h, (tr_ (su_ aa z) (tr_ (su_ ab z) (su_ I z))), (OwnSl.nil 1008 Rep.u 25), eX⟩ (.cons z (.cons z (.cons z (.cons z (.cons z .nil)))))
     ·refine WC.condF' z bn (sk (th (sq (WC.drawH [16, 19, 20] [0, 1, 2, 3, 4, 5, 6, 7, 8, 9, 10, 11] aI 13 fmix z (by kernel_rfl) ?_))))
      intro eY al
      refine WD.y 0 z (by kernel_rfl) (fun _ _ _ => yf fo94_0 z) z (WD.y 1 z (by kernel_rfl) (fun k1 l2 c7 => have eZ := aD.st I z; have e0 := eZ.st al z; have e1 := e0.st c7 z; yl ty93 z z (e1.cell 0 _ z)) z (WD.y 2 z (by kernel_rfl) (fun _ _ _ => yf fo94_0 z) z (WD.y 3 z (by kernel_rfl) (fun k2 l3 c8 => have e2 := aD.st I z; have e5 := e2.st al z; have e6 := e5.st c8 z; yl ty93 z z (e6.cell 0 _ z)) z (WD.y 4 z (by kernel_rfl) (fun _ _ _ => ym z) z (WD.y 5 z (by kernel_rfl) (fun _ _ _ => ym z) z (WD.y 7 z (by kernel_rfl) (fun _ _ _ => yn z) z (WD.y 8 z (by kernel_rfl) (fun _ _ _ => yf fo28_0 z) z ?_)))))))
      obtain ⟨jz, h, e7⟩ := bnd h
      refine WD.join (σ := (List UInt64 × Own × Value)) (f' := 1) [11, 10, 9, 8, 7, 6, 5, 4, 3, 2, 1, 0] (fun x O' w' => x.1 = jz ∧ Stp [16, 19, 20] aI eY x.2.1 w' ∧ Blk 16 x.2.1 w' l 30 [vi d.Scale, vu (d.Zero + j.Zero), vi ac, Value.slice none 0 0, vi 0, Value.slice none 0 0] ∧ OwnSl 1001 Rep.u 25 x.2.1 w' x.2.2 x.1 ∧ x.2.1 = O') (fun x => [(4, pt X 0), (15, pt l 0), (17, pt bl 0), (18, vi ac), (71, Value.slice (some ⟨m, 0, none⟩) 2 2), (72, vi 2), (73, vi 0), (96, x.2.2), (100, pt l 3)]) (fun cq => ?_) ?_
      ·refine WD.heavy2 6 9 z z (by kernel_rfl) ?_ ?_
       ·obtain ⟨jA, e8, h⟩ := bnd h
        refine WL.make (O := aI) (R := Rep.u) (zx := (0 : UInt64)) 19 (by decide) ty26 ty25 z (by decide) (by decide) z z (fun _ _ => z) e8 z ?_
        intro jB l4 k3 aW e9
        refine nl (At.dq (su_ aW z) (WD.heavy 9 z (by kernel_rfl) ?_))
        have fa := bk.st E z
        have fb := fa.st aa z
        have fc := fb.st ab z
        have fd := fc.st I z
        have fe := fd.st al z
        have ff := fe.st aW z
        refine WL.store (v := vi ac) (cells' := [vi d.Scale, vu (d.Zero + j.Zero), vi ac, Value.slice none 0 0, vi 0, Value.slice none 0 0]) ty3 z z ff z (le_ z) z z ?_
        intro k4 aX fg
        refine nl (At.dq (su_ aX z) (WD.y 10 z (by kernel_rfl) (fun _ _ _ => yn z) z (WD.y 11 z (by kernel_rfl) (fun _ _ _ => yf fo28_1 z) z ?_)))
        have fh := e9.st aX z z z
        obtain ⟨jC, aY, fi⟩ := OwnSl.rlb 1001 rfl fh
        have fj := fg.st aY z
        refine WD.own (su_ aY z) (WD.perm _ [11, 10, 9, 8, 7, 6, 5, 4, 3, 2, 1, 0] (by kernel_rfl) ?_)
        exact cq (jA, jC, jB) _ _ _ ⟨some1 h, (tr_ (su_ aW z) (tr_ (su_ aX z) (su_ aY z))), fj, fi, z⟩ (.cons z (.cons z (.cons z (.cons z (.cons z (.cons z (.cons z (.cons z (.cons z .nil)))))))))
       ·try simp only [Option.bind_assoc] at h
        try simp only [Option.bind_some] at h
        have fk := bk.st E z
        have fl := fk.st aa z
        have fm := fl.st ab z
        have fn := fm.st I z
        have fo := fn.st al z
        refine WL.store (v := vi ac) (cells' := [vi d.Scale, vu (d.Zero + j.Zero), vi ac, Value.slice none 0 0, vi 0, Value.slice none 0 0]) ty3 z z fo z (le_ z) z z ?_
        intro k5 b0 fp
        refine nl (At.dq (su_ b0 z) (WD.heavy 6 z (by kernel_rfl) ?_))
        obtain ⟨jD, fq, h⟩ := bnd h
        refine WL.make (O := aI) (R := Rep.u) (zx := (0 : UInt64)) 20 (by decide) ty26 ty25 z (by decide) (by decide) z z (fun _ _ => z) fq z ?_
        intro jE l5 k6 aZ fr
        refine nl (At.dq (su_ aZ z) (WD.y 10 z (by kernel_rfl) (fun _ _ _ => yn z) z (WD.y 11 z (by kernel_rfl) (fun _ _ _ => yf fo28_1 z) z ?_)))
        obtain ⟨jF, a2, fs⟩ := OwnSl.rlb 1001 rfl fr
        have ft := fp.st aZ z
        have fu := ft.st a2 z
        refine WD.own (su_ a2 z) (WD.perm _ [11, 10, 9, 8, 7, 6, 5, 4, 3, 2, 1, 0] (by kernel_rfl) ?_)
        exact cq (jD, jF, jE) _ _ _ ⟨some1 h, (tr_ (su_ b0 z) (tr_ (su_ aZ z) (su_ a2 z))), fu, fs, z⟩ (.cons z (.cons z (.cons z (.cons z (.cons z (.cons z (.cons z (.cons z (.cons z .nil)))))))))
      ·rintro ⟨bo, b8, jG⟩ _ k7 ⟨rfl, az, cr, bp, rfl⟩
       replace h := e7
       try dsimp only at h az cr bp
       refine (show WD _ _ _ _ _ _ _ _ [(4, pt X 0), (15, pt l 0), (17, pt bl 0), (18, vi ac), (71, Value.slice (some ⟨m, 0, none⟩) 2 2), (72, vi 2), (73, vi 0), (96, jG), (100, pt l 3)] _ _ from ?_)
       refine WD.phase [16] [0, 1, 2, 3, 4, 5, 6, 7, 8, 9, 10, 11, 12] (by kernel_rfl) (by kernel_rfl) (WD.heavy 12 z (by kernel_rfl) ?_)
       have fv := h
       obtain ⟨aJ, aK, aL, rfl⟩ := bp.shape
       have h := fv
       refine WL.store (v := (Value.slice aJ aK aL)) (cells' := [vi d.Scale, vu (d.Zero + j.Zero), vi ac, (Value.slice aJ aK aL), vi 0, Value.slice none 0 0]) ty26 z z cr z (le_ z) z z ?_
       intro bq aw br
       refine nl (At.dq (su_ aw z) (WD.done_ (by kernel_rfl) (th (sq (rg (wY (yf fo94_0 z) z ?_))))))
       have fw := aD.st I z
       have fx := fw.st al z
       have fy := fx.st az z
       have aR := fy.st aw z
       refine wY (yl ty93 z z (aR.cell 0 _ z)) z (wY (yn z) z (wY (yf fo28_1 z) z (wY (yl ty26 z z (br.cell 3 _ z)) z ?_)))
       have cs := bp.st aw z z z
       refine wY (Y.len ty26 z cs.src.sl) z (wY (ym z) z (nl (th ?_)))
       obtain ⟨jH, h, fz⟩ := bnd h
       refine WC.join (σ := (List UInt64 × Own)) (fun x w' => x.1 = jH ∧ Stp [1001, 1002, 1003] b8 bq x.2 w' ∧ OwnSl 1005 Rep.u 25 x.2 w' (Value.slice aJ aK aL) x.1) (fun x => [(4, pt X 0), (15, pt l 0), (71, Value.slice (some ⟨m, 0, none⟩) 2 2), (72, vi 2), (73, vi 0)]) ?_ ?_
       ·refine WC.block ?_
        obtain ⟨c9, h, fA⟩ := flow1 h
        obtain ⟨da, h⟩ := loop_some h
        refine WC.joinB 2 (σ := (List UInt64 × Own)) (fun x w' => c9 = .go x.1 ∧ Stp [1001, 1002] b8 bq x.2 w' ∧ OwnSl 1003 Rep.u 25 x.2 w' (Value.slice aJ aK aL) x.1) (fun x => [(4, pt X 0), (15, pt l 0), (71, Value.slice (some ⟨m, 0, none⟩) 2 2), (72, vi 2), (73, vi 0)]) ?_ ?_
        ·obtain ⟨jI, db, fB⟩ := OwnSl.rlb 1002 rfl cs
         refine WC.loop (σ := (List UInt64 × Int × Own)) (fun x k w' => loopN k (fold_Merge_lp1 d j ac bo) (x.1, x.2.1) = some c9 ∧ Stp [1001, 1002] b8 bq x.2.2 w' ∧ OwnSl 1002 Rep.u 25 x.2.2 w' (Value.slice aJ aK aL) x.1) (fun x => [(4, pt X 0), (15, pt l 0), (17, pt bl 0), (18, vi ac), (71, Value.slice (some ⟨m, 0, none⟩) 2 2), (72, vi 2), (73, vi 0), (106, vi (bo.length : Int)), (107, vi x.2.1)]) (bo, 0, jI) da (.cons z (.cons z (.cons z (.cons z (.cons z (.cons z (.cons z (.cons z (.cons z .nil))))))))) ⟨h, (su_ db z), fB⟩ ?_
         rintro ⟨jJ, bs, dc⟩ da k8 ⟨h, ad, bt⟩
         obtain ⟨jK, l6, rfl, h, ct⟩ := rnd1 h
         unfold fold_Merge_lp1 at h
         try dsimp only at h ad bt
         refine (show WC _ _ _ _ [(4, pt X 0), (15, pt l 0), (17, pt bl 0), (18, vi ac), (71, Value.slice (some ⟨m, 0, none⟩) 2 2), (72, vi 2), (73, vi 0), (106, vi (bo.length : Int)), (107, vi bs)] _ from ?_)
         refine sq (rg (wY (Y.lss_i z z) z (nl (th (sq ?_)))))
         rcases cnd h with ⟨bu, h⟩ | ⟨bu, h⟩
         ·refine WC.condT' z bu (sk (th (sq (WC.block (sq (rg (wY (ym z) z (wY (ya z) z (nl ?_)))))))))
          refine th (WC.drawH [] [0, 1, 2, 3, 4, 5, 6, 7, 8, 9, 10, 11, 12, 13, 14, 15, 16, 17, 18, 19] dc 21 fmix z (by kernel_rfl) ?_)
          intro k9 am
          refine WD.y 0 z (by kernel_rfl) (fun _ _ _ => yf fo94_0 z) z (WD.y 1 z (by kernel_rfl) (fun la l7 dd => have fC := aR.st ad z; have fD := fC.st am z; have fF := fD.st dd z; yl ty93 z z (fF.cell 0 _ z)) z (WD.y 2 z (by kernel_rfl) (fun _ _ _ => yn z) z (WD.y 3 z (by kernel_rfl) (fun _ _ _ => yf fo28_1 z) z (WD.y 4 z (by kernel_rfl) (fun lb l8 de => have fG := br.st ad z; have fH := fG.st am z; have fI := fH.st de z; yl ty26 z z (fI.cell 3 _ z)) z (WD.y 5 z (by kernel_rfl) (fun _ _ _ => ym z) z (WD.y 6 z (by kernel_rfl) (fun _ _ _ => yf fo94_1 z) z (WD.y 7 z (by kernel_rfl) (fun lc l9 df => have fJ := aR.st ad z; have fK := fJ.st am z; have fL := fK.st df z; yL ty28 z z (fL.cells 1 [vi d.Pos.Offset, (Value.slice aq ar au)] z) z) z (WD.y 8 z (by kernel_rfl) (fun _ _ _ => ym z) z (WD.y 9 z (by kernel_rfl) (fun _ _ _ => ym z) z ?_)))))))))
          refine WD.y 10 z (by kernel_rfl) (fun _ _ _ => Y.add_i z z) z (WD.y 12 z (by kernel_rfl) (fun _ _ _ => yf fo94_2 z) z (WD.y 13 z (by kernel_rfl) (fun ld ma dg => have fN := aR.st ad z; have fO := fN.st am z; have fP := fO.st dg z; yL ty28 z z (fP.cells 3 [vi j.Pos.Offset, (Value.slice Q S T)] z) z) z (WD.y 14 z (by kernel_rfl) (fun _ _ _ => ym z) z (WD.y 15 z (by kernel_rfl) (fun _ _ _ => ym z) z (WD.y 16 z (by kernel_rfl) (fun _ _ _ => Y.add_i z z) z (WD.heavy 11 z (by kernel_rfl) ?_))))))
          have fQ := co.f I z
          have fR := fQ.f al z
          have fT := fR.f az z
          have fU := fT.f aw z
          have fV := fU.f ad z
          have fY := fV.f am z
          obtain ⟨mb, f0, h⟩ := bnd h
          refine WL.call (vals := [ag [vi d.Pos.Offset, (Value.slice aq ar au)], vi (w64 (ac + bs))]) kok62 z z (c_hist_At (A := fun _ => True) (a0 := d.Pos) (Sl.all fY) f0) ?_
          rintro lf lg ⟨rfl, f1⟩
          obtain ⟨jL, ko, kp, aE⟩ := adoptE dc (fun k => 1) f1
          refine nl (At.dq (su_ aE z) (WD.heavy 17 z (by kernel_rfl) ?_))
          have f2 := cp.f I z
          have f3 := f2.f al z
          have f4 := f3.f az z
          have f5 := f4.f aw z
          have f6 := f5.f ad z
          have f7 := f6.f am z
          have f8 := f7.f aE z
          obtain ⟨mc, f9, h⟩ := bnd h
          refine WL.call (vals := [ag [vi j.Pos.Offset, (Value.slice Q S T)], vi (w64 (ac + bs))]) kok62 z z (c_hist_At (A := fun _ => True) (a0 := j.Pos) (Sl.all f8) f9) ?_
          rintro lh li ⟨rfl, ga⟩
          obtain ⟨jM, kq, kr, a3⟩ := adoptE jL (fun k => 1) ga
          refine nl (At.dq (su_ a3 z) (WD.y 18 z (by kernel_rfl) (fun _ _ _ => Y.add_u z z) z ?_))
          obtain ⟨jN, gb, h⟩ := bnd h
          have gc := bt.st am z z z
          have gd := gc.st aE z z z
          have bw := gd.st a3 z z z
          obtain ⟨md, kL, lj, bx, ge, gf, bz, dh⟩ := OwnSl.at bw gb
          obtain rfl := dh
          replace bz : CellsAt _ _ _ [vu jN] := bz
          have kM := CAt.own bw bx bz
          refine WD.y 19 z (by kernel_rfl) (fun _ _ _ => Y.indexAddr ty26 ty25 z bx z ge gf) z (WD.phase [1002] [0, 1, 2, 3, 4, 5, 6, 7, 8, 9, 10, 11, 12, 13, 14, 15, 16, 17, 18, 19, 20] (by kernel_rfl) (by kernel_rfl) (WD.heavy 20 z (by kernel_rfl) ?_))
          obtain ⟨me, gg, h⟩ := lt1 h
          refine WL.ren 128 z (congrArg vu gg.symm) ?_
          obtain ⟨gh, di, h⟩ := bnd h
          refine WL.storeOwn (by decide) ty25 z z z bw bx di ?_
          intro ll b1 gi
          refine nl (At.dq (su_ b1 z) (WD.done_ (by kernel_rfl) (At.inBlock (th (rg (wY (Y.add_i z z) z (wY (ym z) z (nl ?_))))))))
          exact At.round (gh, w64 (bs + 1), jM) jK (Nat.lt_succ_self _) ⟨next1 h ct, (tr_ (su_ ad z) (tr_ (su_ am z) (tr_ (su_ aE z) (tr_ (su_ a3 z) (su_ b1 z))))), gi⟩ (.cons z (.cons z (.cons z (.cons z (.cons z (.cons z (.cons z (.cons z (.cons z .nil)))))))))
         ·refine WC.condF' z bu (WC.exit (At.thenX (At.loopX ?_)))
          obtain ⟨jO, dj, gj⟩ := OwnSl.rlb 1003 rfl bt
          exact At.hitB (σ := (List UInt64 × Own)) (jJ, jO) ⟨brk1 h ct, (tr_ (su_ ad z) (su_ dj z)), gj⟩ (.cons z (.cons z (.cons z (.cons z (.cons z .nil)))))
        ·rintro ⟨jP, mf⟩ lm ⟨rfl, b2, cu⟩
         replace h := flowK_go fA
         try dsimp only at h b2 cu
         refine (show At _ _ _ [(4, pt X 0), (15, pt l 0), (71, Value.slice (some ⟨m, 0, none⟩) 2 2), (72, vi 2), (73, vi 0)] _ from ?_)
         refine At.inBlockHit ?_
         obtain ⟨jQ, dk, gk⟩ := OwnSl.rlb 1005 rfl cu
         exact At.join (σ := (List UInt64 × Own)) (jP, jQ) ⟨some1 h, (tr_ (su_ b2 z) (su_ dk z)), gk⟩ (.cons z (.cons z (.cons z (.cons z (.cons z .nil)))))
       ·rintro ⟨jR, mg⟩ ln ⟨rfl, a4, cv⟩
        replace h := fz
        try dsimp only at h a4 cv
        refine (show At _ _ _ [(4, pt X 0), (15, pt l 0), (71, Value.slice (some ⟨m, 0, none⟩) 2 2), (72, vi 2), (73, vi 0)] _ from ?_)
        refine At.inBlock ?_
        obtain ⟨jS, b3, gl⟩ := OwnSl.rlb 1008 rfl cv
        have gm := br.st a4 z
        have gn := gm.st b3 z
        exact At.join (σ := (Int × List UInt64 × Own × Value)) (ac, jR, jS, (Value.slice aJ aK aL)) ⟨go2 h, (tr_ (su_ aa z) (tr_ (su_ ab z) (tr_ (su_ I z) (tr_ (su_ al z) (tr_ (su_ az z) (tr_ (su_ aw z) (tr_ (su_ a4 z) (su_ b3 z)))))))), gl, gn⟩ (.cons z (.cons z (.cons z (.cons z (.cons z .nil)))))
   ·rintro ⟨ay, mh, dl, aM⟩ gp ⟨rfl, an, cw, aS⟩
    replace h := flowK_go cn
    try dsimp only at h an cw aS
    refine (show At _ _ _ [(4, pt X 0), (15, pt l 0), (71, Value.slice (some ⟨m, 0, none⟩) 2 2), (72, vi 2), (73, vi 0)] _ from ?_)
    refine th (rg (WL.yE (Y.add_i z z) (congrArg vi (by decide : w64 (0 + 1) = 1)) z (wY (ym z) z (nl (At.again (sq (rg (WL.yE (Y.lss_i z z) (congrArg vB (by decide : decide ((1 : Int) < (2 : Int)) = true)) z (nl ?_)))))))))
    refine th (sq (WC.condT z (sk (th (sq ?_)))))
    obtain ⟨jT, h, cx⟩ := flow1 h
    refine WC.join (σ := (Int × List UInt64 × Own × Value)) (fun x w' => jT = .go (x.1, x.2.1) ∧ Stp [16, 21, 22, 23, 1010, 1011, 1012, 1014] dl gp x.2.2.1 w' ∧ OwnSl 1017 Rep.u 25 x.2.2.1 w' x.2.2.2 x.2.1 ∧ Blk 16 x.2.2.1 w' l 30 [vi d.Scale, vu (d.Zero + j.Zero), vi ay, aM, vi x.1, x.2.2.2]) (fun x => [(4, pt X 0), (15, pt l 0), (71, Value.slice (some ⟨m, 0, none⟩) 2 2), (72, vi 2), (73, vi 1)]) ?_ ?_
    ·refine WC.block (sq (rg (WL.yE (Y.indexAddr ty95 ty94 z z z (by decide) (by decide)) (show (Value.pointer (some ⟨m, 0 + (1 : Int).toNat * 5, none⟩)) = .pointer (some ⟨m, 5, none⟩) from z) z ?_)))
     have gq := cm.st an z
     refine wY (yL ty94 z z (gq.cells 5 [pt l 4, vi d.Neg.Offset, (Value.slice L M P), vi j.Neg.Offset, (Value.slice U V W)] z) z) z (WL.alloc (O := dl) 21 [Value.pointer none, vi 0, Value.slice none 0 0, vi 0, Value.slice none 0 0] ty94 z z ?_)
     intro bA jU lo ae gr
     refine WL.store (v := ag [pt l 4, vi d.Neg.Offset, (Value.slice L M P), vi j.Neg.Offset, (Value.slice U V W)]) (cells' := [pt l 4, vi d.Neg.Offset, (Value.slice L M P), vi j.Neg.Offset, (Value.slice U V W)]) ty94 z z gr z (le_ z) z z ?_
     intro lp af aF
     refine nl (th (sq (rg (wY (yf fo94_1 z) z (wY (yL ty28 z z (aF.cells 1 [vi d.Neg.Offset, (Value.slice L M P)] z) z) z (wY (yf fo94_2 z) z (wY (yL ty28 z z (aF.cells 3 [vi j.Neg.Offset, (Value.slice U V W)] z) z) z ?_)))))))
     have gs := cf.f C z
     have gt := gs.f D z
     have gu := gt.f G z
     have gw := gu.f H z
     have gz := gw.f E z
     have gB := gz.f an z
     have gC := gB.f ae z
     have cy := gC.f af z
     have gE := ci.f D z
     have gG := gE.f G z
     have gH := gG.f H z
     have gI := gH.f E z
     have gJ := gI.f an z
     have gK := gJ.f ae z
     have cz := gK.f af z
     obtain ⟨⟨ah, mi⟩, gL, h⟩ := bnd h
     refine WL.call (vals := [ag [vi d.Neg.Offset, (Value.slice L M P)], ag [vi j.Neg.Offset, (Value.slice U V W)]]) kok61 z z (c_fold_cover (A := fun _ => True) (a0 := d.Neg) (a1 := j.Neg) (Sl.all cy) (Sl.all cz) gL) ?_
     rintro lq lr ⟨rfl, gM⟩
     obtain ⟨aN, ks, kt, J⟩ := adoptE jU (fun k => 1) gM
     refine wY (ym z) z (wY (yx z z) z (wY (yx z z) z (wY (ya z) z (wY (ya z) z (nl (th (sq (sq (rg ?_)))))))))
     refine wY (ym z) z (wY (Y.gtr_i z z) z (nl (th ?_)))
     rcases cnd h with ⟨bB, h⟩ | ⟨bB, h⟩
     ·refine WC.condT' z bB (sq (rg (wY (yb (vals := []) (cells := [vi 0, vu 0, vi 0, Value.slice none 0 0, vi 0, Value.slice none 0 0]) (fe_ z) (by kernel_rfl)) z ?_)))
      have gO := aU.st ak z
      have gP := gO.st K z
      have gQ := gP.st F z
      have gR := gQ.st o z
      have gU := gR.st t z
      have gV := gU.st C z
      have gW := gV.st D z
      have gX := gW.st G z
      have gY := gX.st H z
      have gZ := gY.st E z
      have g0 := gZ.st an z
      have g1 := g0.st ae z
      have g2 := g1.st af z
      have g3 := g2.st J z
      refine WL.store (v := ag [vi 0, vu 0, vi 0, Value.slice none 0 0, vi 0, Value.slice none 0 0]) (cells' := [vi 0, vu 0, vi 0, Value.slice none 0 0, vi 0, Value.slice none 0 0]) ty30 z z g3 z (le_ z) z z ?_
      intro g4 dm g5
      refine wY (ya z) z (nl (th (rt (At.thenR (At.inBlockR ?_)))))
      have h := outs1 h cx
      refine At.joinR (At.thenR (At.thenR (At.inBlockR (At.thenR ?_))))
      obtain ⟨rfl, rfl⟩ := tup2 h
      have g6 : Stp [13, 14, 15, 16, 18, 19, 20, 21, 1001, 1002, 1003, 1005] (Lg.O0 A) w aN g4 := (tr_ (su_ av z) (tr_ (su_ aj z) (tr_ (su_ Z z) (tr_ (su_ ak z) (tr_ (su_ K z) (tr_ (su_ F z) (tr_ (su_ o z) (tr_ (su_ t z) (tr_ (su_ C z) (tr_ (su_ D z) (tr_ (su_ G z) (tr_ (su_ H z) (tr_ (su_ E z) (tr_ (su_ an z) (tr_ (su_ ae z) (tr_ (su_ af z) (tr_ (su_ J z) (su_ dm z))))))))))))))))))
      exact At.res (.inl z) z (.cell z (g5.runAg 0 [vi 0, vu 0, vi 0, Value.slice none 0 0, vi 0, Value.slice none 0 0] ty30 z z z) (.tmp z .nil)) ⟨Value.slice none 0 0, Value.slice none 0 0, z, (se_ g6 z z), (Or.inl ⟨z, z⟩), (Or.inl ⟨z, z⟩)⟩
     ·refine WC.condF' z bB (sk (th (sq (sq (rg (wY (ym z) z (wY (Y.eql_i z z) z (nl (th ?_)))))))))
      rcases cnd h with ⟨bC, h⟩ | ⟨bC, h⟩
      ·refine WC.condT' z bC (WC.exit (At.thenX (At.inBlockHit ?_)))
       have g7 := aS.st ae z
       have g8 := g7.st af z
       have g9 := g8.st J z
       exact At.join (σ := (Int × List UInt64 × Own × Value)) (0, [], aN, Value.slice none 0 0) ⟨go2 h, (tr_ (su_ ae z) (tr_ (su_ af z) (su_ J z))), (OwnSl.nil 1017 Rep.u 25), g9⟩ (.cons z (.cons z (.cons z (.cons z (.cons z .nil)))))
      ·refine WC.condF' z bC (sk (th (sq (WC.drawH [16, 22, 23] [0, 1, 2, 3, 4, 5, 6, 7, 8, 9, 10, 11] aN 13 fmix z (by kernel_rfl) ?_))))
       intro ha ao
       refine WD.y 0 z (by kernel_rfl) (fun _ _ _ => yf fo94_0 z) z (WD.y 1 z (by kernel_rfl) (fun ls mj dn => have hc := aF.st J z; have hd := hc.st ao z; have he := hd.st dn z; yl ty93 z z (he.cell 0 _ z)) z (WD.y 2 z (by kernel_rfl) (fun _ _ _ => yf fo94_0 z) z (WD.y 3 z (by kernel_rfl) (fun lu ml dp => have hf := aF.st J z; have hg := hf.st ao z; have hh := hg.st dp z; yl ty93 z z (hh.cell 0 _ z)) z (WD.y 4 z (by kernel_rfl) (fun _ _ _ => ym z) z (WD.y 5 z (by kernel_rfl) (fun _ _ _ => ym z) z (WD.y 7 z (by kernel_rfl) (fun _ _ _ => yn z) z (WD.y 8 z (by kernel_rfl) (fun _ _ _ => yf fo28_0 z) z ?_)))))))
       obtain ⟨jV, h, hi⟩ := bnd h
       refine WD.join (σ := (List UInt64 × Own × Value)) (f' := 1) [11, 10, 9, 8, 7, 6, 5, 4, 3, 2, 1, 0] (fun x O' w' => x.1 = jV ∧ Stp [16, 22, 23] aN ha x.2.1 w' ∧ Blk 16 x.2.1 w' l 30 [vi d.Scale, vu (d.Zero + j.Zero), vi ay, aM, vi ah, Value.slice none 0 0] ∧ OwnSl 1010 Rep.u 25 x.2.1 w' x.2.2 x.1 ∧ x.2.1 = O') (fun x => [(4, pt X 0), (15, pt l 0), (17, pt bA 0), (18, vi ah), (71, Value.slice (some ⟨m, 0, none⟩) 2 2), (72, vi 2), (73, vi 1), (96, x.2.2), (100, pt l 5)]) (fun cA => ?_) ?_
       ·refine WD.heavy2 6 9 z z (by kernel_rfl) ?_ ?_
        ·obtain ⟨jW, hj, h⟩ := bnd h
         refine WL.make (O := aN) (R := Rep.u) (zx := (0 : UInt64)) 22 (by decide) ty26 ty25 z (by decide) (by decide) z z (fun _ _ => z) hj z ?_
         intro jX mm lv a5 hl
         refine nl (At.dq (su_ a5 z) (WD.heavy 9 z (by kernel_rfl) ?_))
         have hm := aS.st ae z
         have hn := hm.st af z
         have ho := hn.st J z
         have hp := ho.st ao z
         have hq := hp.st a5 z
         refine WL.store (v := vi ah) (cells' := [vi d.Scale, vu (d.Zero + j.Zero), vi ay, aM, vi ah, Value.slice none 0 0]) ty3 z z hq z (le_ z) z z ?_
         intro lw a6 ht
         refine nl (At.dq (su_ a6 z) (WD.y 10 z (by kernel_rfl) (fun _ _ _ => yn z) z (WD.y 11 z (by kernel_rfl) (fun _ _ _ => yf fo28_1 z) z ?_)))
         have hu := hl.st a6 z z z
         obtain ⟨jY, a7, hv⟩ := OwnSl.rlb 1010 rfl hu
         have hw := ht.st a7 z
         refine WD.own (su_ a7 z) (WD.perm _ [11, 10, 9, 8, 7, 6, 5, 4, 3, 2, 1, 0] (by kernel_rfl) ?_)
         exact cA (jW, jY, jX) _ _ _ ⟨some1 h, (tr_ (su_ a5 z) (tr_ (su_ a6 z) (su_ a7 z))), hw, hv, z⟩ (.cons z (.cons z (.cons z (.cons z (.cons z (.cons z (.cons z (.cons z (.cons z .nil)))))))))
        ·try simp only [Option.bind_assoc] at h
         try simp only [Option.bind_some] at h
         have hx := aS.st ae z
         have hy := hx.st af z
         have hz := hy.st J z
         have hC := hz.st ao z
         refine WL.store (v := vi ah) (cells' := [vi d.Scale, vu (d.Zero + j.Zero), vi ay, aM, vi ah, Value.slice none 0 0]) ty3 z z hC z (le_ z) z z ?_
         intro lx b4 hD
         refine nl (At.dq (su_ b4 z) (WD.heavy 6 z (by kernel_rfl) ?_))
         obtain ⟨jZ, hE, h⟩ := bnd h
         refine WL.make (O := aN) (R := Rep.u) (zx := (0 : UInt64)) 23 (by decide) ty26 ty25 z (by decide) (by decide) z z (fun _ _ => z) hE z ?_
         intro j0 mn ly a8 hF
         refine nl (At.dq (su_ a8 z) (WD.y 10 z (by kernel_rfl) (fun _ _ _ => yn z) z (WD.y 11 z (by kernel_rfl) (fun _ _ _ => yf fo28_1 z) z ?_)))
         obtain ⟨j1, a9, hG⟩ := OwnSl.rlb 1010 rfl hF
         have hH := hD.st a8 z
         have hI := hH.st a9 z
         refine WD.own (su_ a9 z) (WD.perm _ [11, 10, 9, 8, 7, 6, 5, 4, 3, 2, 1, 0] (by kernel_rfl) ?_)
         exact cA (jZ, j1, j0) _ _ _ ⟨some1 h, (tr_ (su_ b4 z) (tr_ (su_ a8 z) (su_ a9 z))), hI, hG, z⟩ (.cons z (.cons z (.cons z (.cons z (.cons z (.cons z (.cons z (.cons z (.cons z .nil)))))))))
       ·rintro ⟨bD, b9, j2⟩ _ lA ⟨rfl, aA, cC, bE, rfl⟩
        replace h := hi
        try dsimp only at h aA cC bE
        refine (show WD _ _ _ _ _ _ _ _ [(4, pt X 0), (15, pt l 0), (17, pt bA 0), (18, vi ah), (71, Value.slice (some ⟨m, 0, none⟩) 2 2), (72, vi 2), (73, vi 1), (96, j2), (100, pt l 5)] _ _ from ?_)
        refine WD.phase [16] [0, 1, 2, 3, 4, 5, 6, 7, 8, 9, 10, 11, 12] (by kernel_rfl) (by kernel_rfl) (WD.heavy 12 z (by kernel_rfl) ?_)
        have hJ := h
        obtain ⟨aO, aP, aQ, rfl⟩ := bE.shape
        have h := hJ
        refine WL.store (v := (Value.slice aO aP aQ)) (cells' := [vi d.Scale, vu (d.Zero + j.Zero), vi ay, aM, vi ah, (Value.slice aO aP aQ)]) ty26 z z cC z (le_ z) z z ?_
        intro bF ax bG
        refine nl (At.dq (su_ ax z) (WD.done_ (by kernel_rfl) (th (sq (rg (wY (yf fo94_0 z) z ?_))))))
        have hK := aF.st J z
        have hL := hK.st ao z
        have hM := hL.st aA z
        have aT := hM.st ax z
        refine wY (yl ty93 z z (aT.cell 0 _ z)) z (wY (yn z) z (wY (yf fo28_1 z) z (wY (yl ty26 z z (bG.cell 5 _ z)) z ?_)))
        have cD := bE.st ax z z z
        refine wY (Y.len ty26 z cD.src.sl) z (wY (ym z) z (nl (th ?_)))
        obtain ⟨j3, h, hN⟩ := bnd h
        refine WC.join (σ := (List UInt64 × Own)) (fun x w' => x.1 = j3 ∧ Stp [1010, 1011, 1012] b9 bF x.2 w' ∧ OwnSl 1014 Rep.u 25 x.2 w' (Value.slice aO aP aQ) x.1) (fun x => [(4, pt X 0), (15, pt l 0), (71, Value.slice (some ⟨m, 0, none⟩) 2 2), (72, vi 2), (73, vi 1)]) ?_ ?_
        ·refine WC.block ?_
         obtain ⟨dr, h, hO⟩ := flow1 h
         obtain ⟨ds, h⟩ := loop_some h
         refine WC.joinB 2 (σ := (List UInt64 × Own)) (fun x w' => dr = .go x.1 ∧ Stp [1010, 1011] b9 bF x.2 w' ∧ OwnSl 1012 Rep.u 25 x.2 w' (Value.slice aO aP aQ) x.1) (fun x => [(4, pt X 0), (15, pt l 0), (71, Value.slice (some ⟨m, 0, none⟩) 2 2), (72, vi 2), (73, vi 1)]) ?_ ?_
         ·obtain ⟨j4, dt, hP⟩ := OwnSl.rlb 1011 rfl cD
          refine WC.loop (σ := (List UInt64 × Int × Own)) (fun x k w' => loopN k (fold_Merge_lp2 d j ah bD) (x.1, x.2.1) = some dr ∧ Stp [1010, 1011] b9 bF x.2.2 w' ∧ OwnSl 1011 Rep.u 25 x.2.2 w' (Value.slice aO aP aQ) x.1) (fun x => [(4, pt X 0), (15, pt l 0), (17, pt bA 0), (18, vi ah), (71, Value.slice (some ⟨m, 0, none⟩) 2 2), (72, vi 2), (73, vi 1), (106, vi (bD.length : Int)), (107, vi x.2.1)]) (bD, 0, j4) ds (.cons z (.cons z (.cons z (.cons z (.cons z (.cons z (.cons z (.cons z (.cons z .nil))))))))) ⟨h, (su_ dt z), hP⟩ ?_
          rintro ⟨j5, bH, du⟩ ds lB ⟨h, ai, bI⟩
          obtain ⟨j6, mo, rfl, h, cE⟩ := rnd1 h
          unfold fold_Merge_lp2 at h
          try dsimp only at h ai bI
          refine (show WC _ _ _ _ [(4, pt X 0), (15, pt l 0), (17, pt bA 0), (18, vi ah), (71, Value.slice (some ⟨m, 0, none⟩) 2 2), (72, vi 2), (73, vi 1), (106, vi (bD.length : Int)), (107, vi bH)] _ from ?_)
          refine sq (rg (wY (Y.lss_i z z) z (nl (th (sq ?_)))))
          rcases cnd h with ⟨bJ, h⟩ | ⟨bJ, h⟩
          ·refine WC.condT' z bJ (sk (th (sq (WC.block (sq (rg (wY (ym z) z (wY (ya z) z (nl ?_)))))))))
           refine th (WC.drawH [] [0, 1, 2, 3, 4, 5, 6, 7, 8, 9, 10, 11, 12, 13, 14, 15, 16, 17, 18, 19] du 21 fmix z (by kernel_rfl) ?_)
           intro lC ap
           refine WD.y 0 z (by kernel_rfl) (fun _ _ _ => yf fo94_0 z) z (WD.y 1 z (by kernel_rfl) (fun lD mp dw => have hQ := aT.st ai z; have hR := hQ.st ap z; have hS := hR.st dw z; yl ty93 z z (hS.cell 0 _ z)) z (WD.y 2 z (by kernel_rfl) (fun _ _ _ => yn z) z (WD.y 3 z (by kernel_rfl) (fun _ _ _ => yf fo28_1 z) z (WD.y 4 z (by kernel_rfl) (fun lE mq dx => have hT := bG.st ai z; have hU := hT.st ap z; have hV := hU.st dx z; yl ty26 z z (hV.cell 5 _ z)) z (WD.y 5 z (by kernel_rfl) (fun _ _ _ => ym z) z (WD.y 6 z (by kernel_rfl) (fun _ _ _ => yf fo94_1 z) z (WD.y 7 z (by kernel_rfl) (fun lF mr dy => have hW := aT.st ai z; have hX := hW.st ap z; have hY := hX.st dy z; yL ty28 z z (hY.cells 1 [vi d.Neg.Offset, (Value.slice L M P)] z) z) z (WD.y 8 z (by kernel_rfl) (fun _ _ _ => ym z) z (WD.y 9 z (by kernel_rfl) (fun _ _ _ => ym z) z ?_)))))))))
           refine WD.y 10 z (by kernel_rfl) (fun _ _ _ => Y.add_i z z) z (WD.y 12 z (by kernel_rfl) (fun _ _ _ => yf fo94_2 z) z (WD.y 13 z (by kernel_rfl) (fun lG ms dz => have hZ := aT.st ai z; have h0 := hZ.st ap z; have h1 := h0.st dz z; yL ty28 z z (h1.cells 3 [vi j.Neg.Offset, (Value.slice U V W)] z) z) z (WD.y 14 z (by kernel_rfl) (fun _ _ _ => ym z) z (WD.y 15 z (by kernel_rfl) (fun _ _ _ => ym z) z (WD.y 16 z (by kernel_rfl) (fun _ _ _ => Y.add_i z z) z (WD.heavy 11 z (by kernel_rfl) ?_))))))
           have h2 := cy.f J z
           have h3 := h2.f ao z
           have h4 := h3.f aA z
           have h5 := h4.f ax z
           have h6 := h5.f ai z
           have h7 := h6.f ap z
           obtain ⟨mt, h8, h⟩ := bnd h
           refine WL.call (vals := [ag [vi d.Neg.Offset, (Value.slice L M P)], vi (w64 (ah + bH))]) kok62 z z (c_hist_At (A := fun _ => True) (a0 := d.Neg) (Sl.all h7) h8) ?_
           rintro lH lI ⟨rfl, h9⟩
           obtain ⟨j7, ku, kv, aG⟩ := adoptE du (fun k => 1) h9
           refine nl (At.dq (su_ aG z) (WD.heavy 17 z (by kernel_rfl) ?_))
           have ia := cz.f J z
           have ib := ia.f ao z
           have ic := ib.f aA z
           have ie := ic.f ax z
           have ig := ie.f ai z
           have ih := ig.f ap z
           have ii := ih.f aG z
           obtain ⟨mu, ij, h⟩ := bnd h
           refine WL.call (vals := [ag [vi j.Neg.Offset, (Value.slice U V W)], vi (w64 (ah + bH))]) kok62 z z (c_hist_At (A := fun _ => True) (a0 := j.Neg) (Sl.all ii) ij) ?_
           rintro lJ lK ⟨rfl, ik⟩
           obtain ⟨j8, kw, kx, ba⟩ := adoptE j7 (fun k => 1) ik
           refine nl (At.dq (su_ ba z) (WD.y 18 z (by kernel_rfl) (fun _ _ _ => Y.add_u z z) z ?_))
           obtain ⟨j9, il, h⟩ := bnd h
           have im := bI.st ap z z z
           have io := im.st aG z z z
           have bK := io.st ba z z z
           obtain ⟨mv, kN, lL, bL, ip, iq, bM, dA⟩ := OwnSl.at bK il
           obtain rfl := dA
           replace bM : CellsAt _ _ _ [vu j9] := bM
           have kO := CAt.own bK bL bM
           refine WD.y 19 z (by kernel_rfl) (fun _ _ _ => Y.indexAddr ty26 ty25 z bL z ip iq) z (WD.phase [1011] [0, 1, 2, 3, 4, 5, 6, 7, 8, 9, 10, 11, 12, 13, 14, 15, 16, 17, 18, 19, 20] (by kernel_rfl) (by kernel_rfl) (WD.heavy 20 z (by kernel_rfl) ?_))
           obtain ⟨mw, ir, h⟩ := lt1 h
           refine WL.ren 128 z (congrArg vu ir.symm) ?_
           obtain ⟨it, dB, h⟩ := bnd h
           refine WL.storeOwn (by decide) ty25 z z z bK bL dB ?_
           intro lM b5 iu
           refine nl (At.dq (su_ b5 z) (WD.done_ (by kernel_rfl) (At.inBlock (th (rg (wY (Y.add_i z z) z (wY (ym z) z (nl ?_))))))))
           exact At.round (it, w64 (bH + 1), j8) j6 (Nat.lt_succ_self _) ⟨next1 h cE, (tr_ (su_ ai z) (tr_ (su_ ap z) (tr_ (su_ aG z) (tr_ (su_ ba z) (su_ b5 z))))), iu⟩ (.cons z (.cons z (.cons z (.cons z (.cons z (.cons z (.cons z (.cons z (.cons z .nil)))))))))
          ·refine WC.condF' z bJ (WC.exit (At.thenX (At.loopX ?_)))
           obtain ⟨ka, dC, iv⟩ := OwnSl.rlb 1012 rfl bI
           exact At.hitB (σ := (List UInt64 × Own)) (j5, ka) ⟨brk1 h cE, (tr_ (su_ ai z) (su_ dC z)), iv⟩ (.cons z (.cons z (.cons z (.cons z (.cons z .nil)))))
         ·rintro ⟨kb, mx⟩ lN ⟨rfl, b6, cF⟩
          replace h := flowK_go hO
          try dsimp only at h b6 cF
          refine (show At _ _ _ [(4, pt X 0), (15, pt l 0), (71, Value.slice (some ⟨m, 0, none⟩) 2 2), (72, vi 2), (73, vi 1)] _ from ?_)
          refine At.inBlockHit ?_
          obtain ⟨kc, dD, iw⟩ := OwnSl.rlb 1014 rfl cF
          exact At.join (σ := (List UInt64 × Own)) (kb, kc) ⟨some1 h, (tr_ (su_ b6 z) (su_ dD z)), iw⟩ (.cons z (.cons z (.cons z (.cons z (.cons z .nil)))))
        ·rintro ⟨kd, my⟩ lO ⟨rfl, bb, cG⟩
         replace h := hN
         try dsimp only at h bb cG
         refine (show At _ _ _ [(4, pt X 0), (15, pt l 0), (71, Value.slice (some ⟨m, 0, none⟩) 2 2), (72, vi 2), (73, vi 1)] _ from ?_)
         refine At.inBlock ?_
         obtain ⟨ke, b7, ix⟩ := OwnSl.rlb 1017 rfl cG
         have iy := bG.st bb z
         have iz := iy.st b7 z
         exact At.join (σ := (Int × List UInt64 × Own × Value)) (ah, kd, ke, (Value.slice aO aP aQ)) ⟨go2 h, (tr_ (su_ ae z) (tr_ (su_ af z) (tr_ (su_ J z) (tr_ (su_ ao z) (tr_ (su_ aA z) (tr_ (su_ ax z) (tr_ (su_ bb z) (su_ b7 z)))))))), ix, iz⟩ (.cons z (.cons z (.cons z (.cons z (.cons z .nil)))))
    ·rintro ⟨bO, mz, mA, kf⟩ lP ⟨rfl, aH, bP, cH⟩
     replace h := flowK_go cx
     try dsimp only at h aH bP cH
     refine (show At _ _ _ [(4, pt X 0), (15, pt l 0), (71, Value.slice (some ⟨m, 0, none⟩) 2 2), (72, vi 2), (73, vi 1)] _ from ?_)
     refine th (rg (WL.yE (Y.add_i z z) (congrArg vi (by decide : w64 (1 + 1) = 2)) z (wY (ym z) z (nl (At.again (sq (rg (WL.yE (Y.lss_i z z) (congrArg vB (by decide : decide ((2 : Int) < (2 : Int)) = false)) z (nl ?_)))))))))
     refine th (sq (WC.condF z (WC.exit (At.thenX (At.thenX (At.inBlockHit (th (sq (rg ?_)))))))))
     refine wY (yL ty30 z z (cH.cells 0 [vi d.Scale, vu (d.Zero + j.Zero), vi ay, aM, vi bO, kf] z) z) z ?_
     have cI := cw.st aH z z z
     have iA := h
     obtain ⟨bQ, bR, bS, rfl⟩ := cI.shape
     have h := iA
     have iB := h
     obtain ⟨bT, bU, bW, rfl⟩ := bP.shape
     have h := iB
     have iC := aU.st ak z
     have iD := iC.st K z
     have iE := iD.st F z
     have iF := iE.st o z
     have iG := iF.st t z
     have iH := iG.st C z
     have iI := iH.st D z
     have iJ := iI.st G z
     have iK := iJ.st H z
     have iL := iK.st E z
     have iM := iL.st an z
     have iN := iM.st aH z
     refine WL.store (v := ag [vi d.Scale, vu (d.Zero + j.Zero), vi ay, (Value.slice bQ bR bS), vi bO, (Value.slice bT bU bW)]) (cells' := [vi d.Scale, vu (d.Zero + j.Zero), vi ay, (Value.slice bQ bR bS), vi bO, (Value.slice bT bU bW)]) ty30 z z iN z (le_ z) z z ?_
     intro iO bc iP
     refine wY (ya z) z (nl (th (rt ?_)))
     obtain ⟨rfl, rfl⟩ := tup2 h
     have iQ := cI.st bc z z z
     obtain ⟨mB, bd, iR⟩ := OwnSl.giveF rfl Flat.u iQ
     have iS := bP.st bc z z z
     have iT := iS.st bd z z z
     obtain ⟨kg, bf, iU⟩ := OwnSl.giveF rfl Flat.u iT
     have bX : Stp [13, 14, 15, 16, 18, 19, 20, 21, 22, 23, 1001, 1002, 1003, 1005, 1008, 1010, 1011, 1012, 1014, 1017] (Lg.O0 A) w kg iO := (tr_ (su_ av z) (tr_ (su_ aj z) (tr_ (su_ Z z) (tr_ (su_ ak z) (tr_ (su_ K z) (tr_ (su_ F z) (tr_ (su_ o z) (tr_ (su_ t z) (tr_ (su_ C z) (tr_ (su_ D z) (tr_ (su_ G z) (tr_ (su_ H z) (tr_ (su_ E z) (tr_ (su_ an z) (tr_ (su_ aH z) (tr_ (su_ bc z) (tr_ (su_ bd z) (su_ bf z))))))))))))))))))
     have iV := iR.f bf z
     have iW := iP.st bd z
     have iX := iW.st bf z
     exact At.res (.inl z) z (.cell z (iX.runAg 0 [vi d.Scale, vu (d.Zero + j.Zero), vi ay, (Value.slice bQ bR bS), vi bO, (Value.slice bT bU bW)] ty30 z z z) (.tmp z .nil)) ⟨(Value.slice bQ bR bS), (Value.slice bT bU bW), z, (se_ bX z z), (Sl.outF iV bX low0), (Sl.outF iU bX low0)⟩
theorem c_tocum_Together {A : Nat → Prop} {v0_3 : Value} {v0_5 : Value} {a0 : api_Hist} {v1_3 : Value} {v1_5 : Value} {a1 : api_Hist} {a2 : Int} {w : World} (hs0_3 : Sl Rep.u w A v0_3 a0.Pos.Counts) (hs0_5 : Sl Rep.u w A v0_5 a0.Neg.Counts) (hs1_3 : Sl Rep.u w A v1_3 a1.Pos.Counts) (hs1_5 : Sl Rep.u w A v1_5 a1.Neg.Counts) {r0 : api_Hist} {r1 : Bool} (h : tocum_Together a0 a1 a2 = some (r0, r1)) : Rets Try.prog 24 [ag [vi a0.Scale, vu a0.Zero, vi a0.Pos.Offset, v0_3, vi a0.Neg.Offset, v0_5], ag [vi a1.Scale, vu a1.Zero, vi a1.Pos.Offset, v1_3, vi a1.Neg.Offset, v1_5], vi a2] w (fun v w' => ∃ (bC : Value) (bD : Value), v = Value.tuple (List.toArray [ag [vi r0.Scale, vu r0.Zero, vi r0.Pos.Offset, bC, vi r0.Neg.Offset, bD], vB r1]) ∧ Ext w w' ∧ Sl Rep.u w' (fun k => w.heap.size ≤ k) bC r0.Pos.Counts ∧ Sl Rep.u w' (fun k => w.heap.size ≤ k) bD r0.Neg.Counts) := by
 unfold tocum_Together at h
 refine Rets.enter Try.func24 z z ?_
 have bE : Sl Rep.u w (imm (Lg.O0 A)) v0_3 a0.Pos.Counts := (Sl.start hs0_3)
 have bF : Sl Rep.u w (imm (Lg.O0 A)) v0_5 a0.Neg.Counts := (Sl.start hs0_5)
 have ee : Sl Rep.u w (imm (Lg.O0 A)) v1_3 a1.Pos.Counts := (Sl.start hs1_3)
 have ef : Sl Rep.u w (imm (Lg.O0 A)) v1_5 a1.Neg.Counts := (Sl.start hs1_5)
 refine (show WC _ _ _ _ [(0, ag [vi a0.Scale, vu a0.Zero, vi a0.Pos.Offset, v0_3, vi a0.Neg.Offset, v0_5]), (1, ag [vi a1.Scale, vu a1.Zero, vi a1.Pos.Offset, v1_3, vi a1.Neg.Offset, v1_5]), (2, vi a2)] _ from ?_)
 refine sq (rg ?_)
 have eg := h
 obtain ⟨bG, bH, bI, rfl⟩ := bE.shape
 have h := eg
 have eh := h
 obtain ⟨bJ, bK, bL, rfl⟩ := bF.shape
 have h := eh
 refine WL.box (O := (Lg.O0 A)) 11 [vi a0.Scale, vu a0.Zero, vi a0.Pos.Offset, (Value.slice bG bH bI), vi a0.Neg.Offset, (Value.slice bJ bK bL)] z z z ?_
 intro fF e7 fs L ei
 have bM := ee.i L z z
 have ej := h
 obtain ⟨bO, bP, bQ, rfl⟩ := bM.shape
 have h := ej
 have bR := ef.i L z z
 have ek := h
 obtain ⟨bS, bT, bU, rfl⟩ := bR.shape
 have h := ek
 refine WL.box (O := e7) 12 [vi a1.Scale, vu a1.Zero, vi a1.Pos.Offset, (Value.slice bO bP bQ), vi a1.Neg.Offset, (Value.slice bS bT bU)] z z z ?_
 intro fG e8 ft K em
 refine WL.alloc (O := e8) 13 [vi 0, vu 0, vi 0, Value.slice none 0 0, vi 0, Value.slice none 0 0] ty30 z z ?_
 intro bo e9 fu G aq
 refine wY (ya z) z (nl (th (sq (rg ?_))))
 have en := ei.st K z
 have eo := en.st G z
 refine wY (yL ty30 z z (eo.cells 0 [vi a0.Scale, vu a0.Zero, vi a0.Pos.Offset, (Value.slice bG bH bI), vi a0.Neg.Offset, (Value.slice bJ bK bL)] z) z) z ?_
 have ep := em.st G z
 refine wY (yL ty30 z z (ep.cells 0 [vi a1.Scale, vu a1.Zero, vi a1.Pos.Offset, (Value.slice bO bP bQ), vi a1.Neg.Offset, (Value.slice bS bT bU)] z) z) z ?_
 have es := bE.i L z z
 have et := es.i K z z
 have eu := et.i G z z
 have ew := bF.i L z z
 have ex := ew.i K z z
 have ey := ex.i G z z
 have ez := bM.i K z z
 have eA := ez.i G z z
 have eB := bR.i K z z
 have eC := eB.i G z z
 obtain ⟨⟨I, J, fH⟩, eD, h⟩ := bnd h
 refine WL.call (vals := [ag [vi a0.Scale, vu a0.Zero, vi a0.Pos.Offset, (Value.slice bG bH bI), vi a0.Neg.Offset, (Value.slice bJ bK bL)], ag [vi a1.Scale, vu a1.Zero, vi a1.Pos.Offset, (Value.slice bO bP bQ), vi a1.Neg.Offset, (Value.slice bS bT bU)]]) kok52 z z (c_fold_Level (A := fun _ => True) (a0 := a0) (a1 := a1) (Sl.all eu) (Sl.all ey) (Sl.all eA) (Sl.all eC) eD) ?_
 rintro fv ar ⟨fa, fb, fc, fd, rfl, eE, fe, ff, fg, fh⟩
 obtain ⟨aS, fi, ab, M⟩ := adoptE e9 (fun k => 1) eE
 have eF : Sl Rep.u ar (frs aS) fa I.Pos.Counts := Sl.adoptF fe (fun k hk => ⟨hk, z⟩) ab
 have eG : Sl Rep.u ar (frs aS) fb I.Neg.Counts := Sl.adoptF ff (fun k hk => ⟨hk, z⟩) ab
 have eH : Sl Rep.u ar (frs aS) fc J.Pos.Counts := Sl.adoptF fg (fun k hk => ⟨hk, z⟩) ab
 have eI : Sl Rep.u ar (frs aS) fd J.Neg.Counts := Sl.adoptF fh (fun k hk => ⟨hk, z⟩) ab
 refine wY (ym z) z (wY (yx z z) z (wY (yx z z) z (wY (yx z z) z (WL.alloc (O := aS) 14 [vi 0, vu 0, vi 0, Value.slice none 0 0, vi 0, Value.slice none 0 0] ty30 z z ?_))))
 intro aT fj fw F eJ
 refine WL.alloc (O := fj) 15 [vi 0, vu 0, vi 0, Value.slice none 0 0, vi 0, Value.slice none 0 0] ty30 z z ?_
 intro aU bW fx C eK
 have eL := eF.f F z
 have bX := eL.f C z
 have eM := h
 obtain ⟨bY, bZ, b0, rfl⟩ := bX.shape
 have h := eM
 have ca := eG.f F z
 have bp := ca.f C z
 have cb := h
 obtain ⟨aW, aX, aY, rfl⟩ := bp.shape
 have h := cb
 have cc := eJ.st C z
 refine WL.store (v := ag [vi I.Scale, vu I.Zero, vi I.Pos.Offset, (Value.slice bY bZ b0), vi I.Neg.Offset, (Value.slice aW aX aY)]) (cells' := [vi I.Scale, vu I.Zero, vi I.Pos.Offset, (Value.slice bY bZ b0), vi I.Neg.Offset, (Value.slice aW aX aY)]) ty30 z z cc z (le_ z) z z ?_
 intro fk m cd
 have ce := eH.f F z
 have cf := ce.f C z
 have bq := cf.f m z
 have cg := h
 obtain ⟨aZ, a3, a4, rfl⟩ := bq.shape
 have h := cg
 have ch := eI.f F z
 have ci := ch.f C z
 have br := ci.f m z
 have cj := h
 obtain ⟨a5, a6, a7, rfl⟩ := br.shape
 have h := cj
 have ck := eK.st m z
 refine WL.store (v := ag [vi J.Scale, vu J.Zero, vi J.Pos.Offset, (Value.slice aZ a3 a4), vi J.Neg.Offset, (Value.slice a5 a6 a7)]) (cells' := [vi J.Scale, vu J.Zero, vi J.Pos.Offset, (Value.slice aZ a3 a4), vi J.Neg.Offset, (Value.slice a5 a6 a7)]) ty30 z z ck z (le_ z) z z ?_
 intro cl o cm
 refine wY (ya z) z (nl (th (sq (sq (rg (wY (ym z) z (wY (Y.neq_i z z) z (nl (th ?_)))))))))
 rcases cnd h with ⟨au, h⟩ | ⟨au, h⟩
 ·refine WC.condT' z au (sq (rg (wY (yb (vals := []) (cells := [vi 0, vu 0, vi 0, Value.slice none 0 0, vi 0, Value.slice none 0 0]) (fe_ z) (by kernel_rfl)) z ?_)))
  have cn := aq.st M z
  have co := cn.st F z
  have cp := co.st C z
  have cq := cp.st m z
  have cr := cq.st o z
  refine WL.store (v := ag [vi 0, vu 0, vi 0, Value.slice none 0 0, vi 0, Value.slice none 0 0]) (cells' := [vi 0, vu 0, vi 0, Value.slice none 0 0, vi 0, Value.slice none 0 0]) ty30 z z cr z (le_ z) z z ?_
  intro cs b1 ct
  refine wY (ya z) z (nl (th (rt (At.thenR ?_))))
  obtain ⟨rfl, rfl⟩ := tup2 h
  have cu : Stp [13, 14, 15] (Lg.O0 A) w bW cs := (tr_ (su_ L z) (tr_ (su_ K z) (tr_ (su_ G z) (tr_ (su_ M z) (tr_ (su_ F z) (tr_ (su_ C z) (tr_ (su_ m z) (tr_ (su_ o z) (su_ b1 z)))))))))
  exact At.res (.inl z) z (.cell z (ct.runAg 0 [vi 0, vu 0, vi 0, Value.slice none 0 0, vi 0, Value.slice none 0 0] ty30 z z z) (.tmp z .nil)) ⟨Value.slice none 0 0, Value.slice none 0 0, z, (se_ cu z z), (Or.inl ⟨z, z⟩), (Or.inl ⟨z, z⟩)⟩
 ·refine WC.condF' z au (sk (th (WC.block ?_)))
  obtain ⟨eN, h, av⟩ := flow1 h
  obtain ⟨b2, h⟩ := loop_some h
  have cv := bX.f m z
  have cw := cv.f o z
  have cx := bp.f m z
  have cy := cx.f o z
  have cz := cd.st o z
  have cA := bq.f o z
  have cC := br.f o z
  refine WC.loop (σ := (Int × UInt64 × Int × List UInt64 × Int × List UInt64 × Int × UInt64 × Int × List UInt64 × Int × List UInt64 × Own × Value × Value × Value × Value)) (fun x k w' => loopN k (tocum_Together_lp1 a2) (x.1, x.2.1, x.2.2.1, x.2.2.2.1, x.2.2.2.2.1, x.2.2.2.2.2.1, x.2.2.2.2.2.2.1, x.2.2.2.2.2.2.2.1, x.2.2.2.2.2.2.2.2.1, x.2.2.2.2.2.2.2.2.2.1, x.2.2.2.2.2.2.2.2.2.2.1, x.2.2.2.2.2.2.2.2.2.2.2.1) = some eN ∧ Stp [14, 15, 16] bW cl x.2.2.2.2.2.2.2.2.2.2.2.2.1 w' ∧ Sl Rep.u w' (frs x.2.2.2.2.2.2.2.2.2.2.2.2.1) x.2.2.2.2.2.2.2.2.2.2.2.2.2.1 x.2.2.2.1 ∧ Sl Rep.u w' (frs x.2.2.2.2.2.2.2.2.2.2.2.2.1) x.2.2.2.2.2.2.2.2.2.2.2.2.2.2.1 x.2.2.2.2.2.1 ∧ Blk 14 x.2.2.2.2.2.2.2.2.2.2.2.2.1 w' aT 30 [vi x.1, vu x.2.1, vi x.2.2.1, x.2.2.2.2.2.2.2.2.2.2.2.2.2.1, vi x.2.2.2.2.1, x.2.2.2.2.2.2.2.2.2.2.2.2.2.2.1] ∧ Sl Rep.u w' (frs x.2.2.2.2.2.2.2.2.2.2.2.2.1) x.2.2.2.2.2.2.2.2.2.2.2.2.2.2.2.1 x.2.2.2.2.2.2.2.2.2.1 ∧ Sl Rep.u w' (frs x.2.2.2.2.2.2.2.2.2.2.2.2.1) x.2.2.2.2.2.2.2.2.2.2.2.2.2.2.2.2 x.2.2.2.2.2.2.2.2.2.2.2.1 ∧ Blk 15 x.2.2.2.2.2.2.2.2.2.2.2.2.1 w' aU 30 [vi x.2.2.2.2.2.2.1, vu x.2.2.2.2.2.2.2.1, vi x.2.2.2.2.2.2.2.2.1, x.2.2.2.2.2.2.2.2.2.2.2.2.2.2.2.1, vi x.2.2.2.2.2.2.2.2.2.2.1, x.2.2.2.2.2.2.2.2.2.2.2.2.2.2.2.2]) (fun x => [(2, vi a2), (6, pt bo 0), (8, pt aT 0), (9, pt aU 0)]) (I.Scale, I.Zero, I.Pos.Offset, I.Pos.Counts, I.Neg.Offset, I.Neg.Counts, J.Scale, J.Zero, J.Pos.Offset, J.Pos.Counts, J.Neg.Offset, J.Neg.Counts, bW, (Value.slice bY bZ b0), (Value.slice aW aX aY), (Value.slice aZ a3 a4), (Value.slice a5 a6 a7)) b2 (.cons z (.cons z (.cons z (.cons z .nil)))) ⟨h, (sr_ _ _ _), cw, cy, cz, cA, cC, cm⟩ ?_
  rintro ⟨ac, ad, ae, b3, af, b4, ah, ai, aj, b5, ak, b6, eO, aw, ax, ay, az⟩ b2 fl ⟨h, H, aA, aC, aD, aE, aF, aG⟩
  obtain ⟨eP, fy, rfl, h, al⟩ := rnd1 h
  unfold tocum_Together_lp1 at h
  try dsimp only at h H aA aC aD aE aF aG
  refine (show WC _ _ _ _ [(2, vi a2), (6, pt bo 0), (8, pt aT 0), (9, pt aU 0)] _ from ?_)
  refine WC.block (sq (rg (wY (yL ty30 z z (aD.cells 0 [vi ac, vu ad, vi ae, aw, vi af, ax] z) z) z (wY (yL ty30 z z (aG.cells 0 [vi ah, vu ai, vi aj, ay, vi ak, az] z) z) z ?_))))
  obtain ⟨⟨d, aH⟩, cD, h⟩ := bnd h
  refine WL.call (vals := [ag [vi ac, vu ad, vi ae, aw, vi af, ax], ag [vi ah, vu ai, vi aj, ay, vi ak, az]]) kok32 z z (c_fold_Merge (A := fun _ => True) (a0 := (api_Hist.mk ac ad (api_Side.mk ae b3) (api_Side.mk af b4))) (a1 := (api_Hist.mk ah ai (api_Side.mk aj b5) (api_Side.mk ak b6))) (Sl.all aA) (Sl.all aC) (Sl.all aE) (Sl.all aF) cD) ?_
  rintro fm bs ⟨eQ, eR, rfl, cE, eS, eT⟩
  obtain ⟨a8, e2, an, t⟩ := adoptE eO (fun k => 1) cE
  have cF : Sl Rep.u bs (frs a8) eQ d.Pos.Counts := Sl.adoptF eS (fun k hk => ⟨hk, z⟩) an
  have cG : Sl Rep.u bs (frs a8) eR d.Neg.Counts := Sl.adoptF eT (fun k hk => ⟨hk, z⟩) an
  refine wY (ym z) z (wY (yx z z) z (wY (yx z z) z (WL.alloc (O := a8) 16 [vi 0, vu 0, vi 0, Value.slice none 0 0, vi 0, Value.slice none 0 0] ty30 z z ?_)))
  intro b7 aI fn l cH
  have aJ := cF.f l z
  have cI := h
  obtain ⟨U, V, W, rfl⟩ := aJ.shape
  have h := cI
  have aK := cG.f l z
  have cJ := h
  obtain ⟨X, Z, aa, rfl⟩ := aK.shape
  have h := cJ
  refine WL.store (v := ag [vi d.Scale, vu d.Zero, vi d.Pos.Offset, (Value.slice U V W), vi d.Neg.Offset, (Value.slice X Z aa)]) (cells' := [vi d.Scale, vu d.Zero, vi d.Pos.Offset, (Value.slice U V W), vi d.Neg.Offset, (Value.slice X Z aa)]) ty30 z z cH z (le_ z) z z ?_
  intro cK j aL
  refine wY (ya z) z (nl (th (sq (WC.block (sq (rg (wY (ym z) z (wY (Y.eql_i z z) z ?_))))))))
  obtain ⟨fz, cL, h⟩ := lt1 h
  refine WL.yE (ya z) (congrArg vB cL.symm) z (nl (th ?_))
  rcases cnd h with ⟨aM, h⟩ | ⟨aM, h⟩
  ·refine WC.condT' z aM (sq (rg (wY (yb (vals := []) (cells := [vi 0, vu 0, vi 0, Value.slice none 0 0, vi 0, Value.slice none 0 0]) (fe_ z) (by kernel_rfl)) z ?_)))
   have cM := aq.st M z
   have cN := cM.st F z
   have cO := cN.st C z
   have cP := cO.st m z
   have cQ := cP.st o z
   have cR := cQ.st H z
   have cS := cR.st t z
   have cT := cS.st l z
   have cU := cT.st j z
   refine WL.store (v := ag [vi 0, vu 0, vi 0, Value.slice none 0 0, vi 0, Value.slice none 0 0]) (cells' := [vi 0, vu 0, vi 0, Value.slice none 0 0, vi 0, Value.slice none 0 0]) ty30 z z cU z (le_ z) z z ?_
   intro cV b8 cW
   refine wY (ya z) z (nl (th (rt (At.inBlockR (At.thenR (At.inBlockR (At.loopR ?_)))))))
   have h := outr1 h al av
   refine At.inBlockR ?_
   obtain ⟨rfl, rfl⟩ := tup2 h
   have cX : Stp [13, 14, 15, 16] (Lg.O0 A) w aI cV := (tr_ (su_ L z) (tr_ (su_ K z) (tr_ (su_ G z) (tr_ (su_ M z) (tr_ (su_ F z) (tr_ (su_ C z) (tr_ (su_ m z) (tr_ (su_ o z) (tr_ (su_ H z) (tr_ (su_ t z) (tr_ (su_ l z) (tr_ (su_ j z) (su_ b8 z)))))))))))))
   exact At.res (.inl z) z (.cell z (cW.runAg 0 [vi 0, vu 0, vi 0, Value.slice none 0 0, vi 0, Value.slice none 0 0] ty30 z z z) (.tmp z .nil)) ⟨Value.slice none 0 0, Value.slice none 0 0, z, (se_ cX z z), (Or.inl ⟨z, z⟩), (Or.inl ⟨z, z⟩)⟩
  ·refine WC.condF' z aM (sq (rg (wY (ym z) z (wY (Y.eql_i z z) z (wY (ym z) z ?_)))))
   refine WL.cut 12 (σ := Unit) (fun _ w' => cK = w') (fun _ => [(2, vi a2), (6, pt bo 0), (8, pt aT 0), (9, pt aU 0), (11, pt b7 0), (48, vB ((decide (aH = 0)) && (decide ((max (d.Pos.Counts.length : Int) (d.Neg.Counts.length : Int)) ≤ a2))))]) ?_ ?_
   ·refine WL.part 36 z (fun aN => ?_) (fun aN => ?_)
    ·refine ug z z (wY (yf fo30_2 z) z (ug z z (wY (yf fo28_1 z) z (ug z z (wY (yl ty26 z z (aL.cell 3 _ z)) z (ug z z ?_))))))
     have cY := aJ.f j z
     refine wY (Y.len ty26 z cY) z (ug z z (wY (yf fo30_3 z) z (ug z z (wY (yf fo28_1 z) z (ug z z (wY (yl ty26 z z (aL.cell 5 _ z)) z (ug z z ?_)))))))
     have cZ := aK.f j z
     refine wY (Y.len ty26 z cZ) z (ug z z (wY (Y.max_i z z) z (ug z z (wY (ym z) z (ug z z (wY (Y.leq_i z z) z (wY (Y.pick (b := true) z z) z (WL.ren (v' := vB ((decide (aH = 0)) && (decide ((max (d.Pos.Counts.length : Int) (d.Neg.Counts.length : Int)) ≤ a2)))) 48 z (congrArg vB (andT aN)) ?_))))))))
     exact nl (At.join () z (.cons z (.cons z (.cons z (.cons z (.cons z (.cons z .nil)))))))
    ·refine WL.gS z z z z (WL.gS z z z z (WL.gS z z z z (WL.gS z z z z (WL.gS z z z z (WL.gS z z z z (WL.gS z z z z (WL.gS z z z z (WL.gS z z z z (WL.gS z z z z ?_)))))))))
     refine WL.gS z z z z (wY (Y.pick (b := false) z z) z (WL.ren (v' := vB ((decide (aH = 0)) && (decide ((max (d.Pos.Counts.length : Int) (d.Neg.Counts.length : Int)) ≤ a2)))) 48 z (congrArg vB (andF aN)) ?_))
     exact nl (At.join () z (.cons z (.cons z (.cons z (.cons z (.cons z (.cons z .nil)))))))
   ·rintro _ _ rfl
    refine (show WL _ _ _ _ _ [(2, vi a2), (6, pt bo 0), (8, pt aT 0), (9, pt aU 0), (11, pt b7 0), (48, vB ((decide (aH = 0)) && (decide ((max (d.Pos.Counts.length : Int) (d.Neg.Counts.length : Int)) ≤ a2))))] _ from ?_)
    obtain ⟨fA, c0, h⟩ := lt1 h
    refine WL.yE (ya z) (congrArg vB c0.symm) z (nl (th ?_))
    rcases cnd h with ⟨aO, h⟩ | ⟨aO, h⟩
    ·refine WC.condT' z aO (sq (rg (wY (yL ty30 z z (aL.cells 0 [vi d.Scale, vu d.Zero, vi d.Pos.Offset, (Value.slice U V W), vi d.Neg.Offset, (Value.slice X Z aa)] z) z) z ?_)))
     have c1 := aq.st M z
     have c2 := c1.st F z
     have c3 := c2.st C z
     have c4 := c3.st m z
     have c5 := c4.st o z
     have c6 := c5.st H z
     have c7 := c6.st t z
     have c8 := c7.st l z
     have c9 := c8.st j z
     refine WL.store (v := ag [vi d.Scale, vu d.Zero, vi d.Pos.Offset, (Value.slice U V W), vi d.Neg.Offset, (Value.slice X Z aa)]) (cells' := [vi d.Scale, vu d.Zero, vi d.Pos.Offset, (Value.slice U V W), vi d.Neg.Offset, (Value.slice X Z aa)]) ty30 z z c9 z (le_ z) z z ?_
     intro da am db
     refine wY (ya z) z (nl (th (rt (At.inBlockR (At.thenR (At.inBlockR (At.loopR ?_)))))))
     have h := outr1 h al av
     refine At.inBlockR ?_
     obtain ⟨rfl, rfl⟩ := tup2 h
     have aP : Stp [13, 14, 15, 16] (Lg.O0 A) w aI da := (tr_ (su_ L z) (tr_ (su_ K z) (tr_ (su_ G z) (tr_ (su_ M z) (tr_ (su_ F z) (tr_ (su_ C z) (tr_ (su_ m z) (tr_ (su_ o z) (tr_ (su_ H z) (tr_ (su_ t z) (tr_ (su_ l z) (tr_ (su_ j z) (su_ am z)))))))))))))
     have dc := aJ.f j z
     have dd := dc.f am z
     have de := aK.f j z
     have df := de.f am z
     exact At.res (.inl z) z (.cell z (db.runAg 0 [vi d.Scale, vu d.Zero, vi d.Pos.Offset, (Value.slice U V W), vi d.Neg.Offset, (Value.slice X Z aa)] ty30 z z z) (.tmp z .nil)) ⟨(Value.slice U V W), (Value.slice X Z aa), z, (se_ aP z z), (Sl.outF dd aP low0), (Sl.outF df aP low0)⟩
    ·refine WC.condF' z aO (sq (rg (wY (yf fo30_0 z) z ?_)))
     have dg := aD.st t z
     have dh := dg.st l z
     have aQ := dh.st j z
     refine wY (yl ty3 z z (aQ.cell 0 _ z)) z (wY (Y.eql_i z z) z ?_)
     obtain ⟨fB, di, h⟩ := lt1 h
     refine WL.yE (ya z) (congrArg vB di.symm) z (nl (th ?_))
     rcases cnd h with ⟨aR, h⟩ | ⟨aR, h⟩
     ·refine WC.condT' z aR (sq (rg (wY (yb (vals := []) (cells := [vi 0, vu 0, vi 0, Value.slice none 0 0, vi 0, Value.slice none 0 0]) (fe_ z) (by kernel_rfl)) z ?_)))
      have dj := aq.st M z
      have dk := dj.st F z
      have dl := dk.st C z
      have dm := dl.st m z
      have dn := dm.st o z
      have dp := dn.st H z
      have dr := dp.st t z
      have ds := dr.st l z
      have dt := ds.st j z
      refine WL.store (v := ag [vi 0, vu 0, vi 0, Value.slice none 0 0, vi 0, Value.slice none 0 0]) (cells' := [vi 0, vu 0, vi 0, Value.slice none 0 0, vi 0, Value.slice none 0 0]) ty30 z z dt z (le_ z) z z ?_
      intro du b9 dw
      refine wY (ya z) z (nl (th (rt (At.inBlockR (At.thenR (At.inBlockR (At.loopR ?_)))))))
      have h := outr1 h al av
      refine At.inBlockR ?_
      obtain ⟨rfl, rfl⟩ := tup2 h
      have dx : Stp [13, 14, 15, 16] (Lg.O0 A) w aI du := (tr_ (su_ L z) (tr_ (su_ K z) (tr_ (su_ G z) (tr_ (su_ M z) (tr_ (su_ F z) (tr_ (su_ C z) (tr_ (su_ m z) (tr_ (su_ o z) (tr_ (su_ H z) (tr_ (su_ t z) (tr_ (su_ l z) (tr_ (su_ j z) (su_ b9 z)))))))))))))
      exact At.res (.inl z) z (.cell z (dw.runAg 0 [vi 0, vu 0, vi 0, Value.slice none 0 0, vi 0, Value.slice none 0 0] ty30 z z z) (.tmp z .nil)) ⟨Value.slice none 0 0, Value.slice none 0 0, z, (se_ dx z z), (Or.inl ⟨z, z⟩), (Or.inl ⟨z, z⟩)⟩
     ·refine WC.condF' z aR (sk (At.inBlock (th (sq (rg (wY (yL ty30 z z (aQ.cells 0 [vi ac, vu ad, vi ae, aw, vi af, ax] z) z) z ?_))))))
      have dy := aA.f t z
      have dz := dy.f l z
      have dA := dz.f j z
      have dB := aC.f t z
      have dC := dB.f l z
      have dD := dC.f j z
      obtain ⟨⟨D, fC⟩, dE, h⟩ := bnd h
      refine WL.call (vals := [ag [vi ac, vu ad, vi ae, aw, vi af, ax], vi 1]) kok31 z z (c_hist_Down (A := fun _ => True) (a0 := (api_Hist.mk ac ad (api_Side.mk ae b3) (api_Side.mk af b4))) (Sl.all dA) (Sl.all dD) dE) ?_
      rintro fo bt ⟨eU, eV, rfl, dF, eW, eX⟩
      obtain ⟨a9, e5, ao, S⟩ := adoptE aI (fun k => 1) dF
      have bu : Sl Rep.u bt (frs a9) eU D.Pos.Counts := Sl.adoptF eW (fun k hk => ⟨hk, z⟩) ao
      have bw : Sl Rep.u bt (frs a9) eV D.Neg.Counts := Sl.adoptF eX (fun k hk => ⟨hk, z⟩) ao
      refine wY (ym z) z (wY (yx z z) z (wY (yx z z) z ?_))
      have dG := h
      obtain ⟨ba, bb, bc, rfl⟩ := bu.shape
      have h := dG
      have dH := h
      obtain ⟨bd, bf, bg, rfl⟩ := bw.shape
      have h := dH
      have dI := aQ.st S z
      refine WL.store (v := ag [vi D.Scale, vu D.Zero, vi D.Pos.Offset, (Value.slice ba bb bc), vi D.Neg.Offset, (Value.slice bd bf bg)]) (cells' := [vi D.Scale, vu D.Zero, vi D.Pos.Offset, (Value.slice ba bb bc), vi D.Neg.Offset, (Value.slice bd bf bg)]) ty30 z z dI z (le_ z) z z ?_
      intro fp P dJ
      refine nl (th (rg ?_))
      have dK := aG.st t z
      have dL := dK.st l z
      have dM := dL.st j z
      have dN := dM.st S z
      have bx := dN.st P z
      refine wY (yL ty30 z z (bx.cells 0 [vi ah, vu ai, vi aj, ay, vi ak, az] z) z) z ?_
      have dO := aE.f t z
      have dP := dO.f l z
      have dQ := dP.f j z
      have dR := dQ.f S z
      have dS := dR.f P z
      have dT := aF.f t z
      have dU := dT.f l z
      have dV := dU.f j z
      have dW := dV.f S z
      have dX := dW.f P z
      obtain ⟨⟨E, fD⟩, dY, h⟩ := bnd h
      refine WL.call (vals := [ag [vi ah, vu ai, vi aj, ay, vi ak, az], vi 1]) kok31 z z (c_hist_Down (A := fun _ => True) (a0 := (api_Hist.mk ah ai (api_Side.mk aj b5) (api_Side.mk ak b6))) (Sl.all dS) (Sl.all dX) dY) ?_
      rintro fq bz ⟨eY, eZ, rfl, dZ, e0, e1⟩
      obtain ⟨bh, e6, ap, T⟩ := adoptE a9 (fun k => 1) dZ
      have bA : Sl Rep.u bz (frs bh) eY E.Pos.Counts := Sl.adoptF e0 (fun k hk => ⟨hk, z⟩) ap
      have bB : Sl Rep.u bz (frs bh) eZ E.Neg.Counts := Sl.adoptF e1 (fun k hk => ⟨hk, z⟩) ap
      refine wY (ym z) z (wY (yx z z) z (wY (yx z z) z ?_))
      have d0 := h
      obtain ⟨bi, bj, bk, rfl⟩ := bA.shape
      have h := d0
      have d1 := h
      obtain ⟨bl, bm, bn, rfl⟩ := bB.shape
      have h := d1
      have d2 := bx.st T z
      refine WL.store (v := ag [vi E.Scale, vu E.Zero, vi E.Pos.Offset, (Value.slice bi bj bk), vi E.Neg.Offset, (Value.slice bl bm bn)]) (cells' := [vi E.Scale, vu E.Zero, vi E.Pos.Offset, (Value.slice bi bj bk), vi E.Neg.Offset, (Value.slice bl bm bn)]) ty30 z z d2 z (le_ z) z z ?_
      intro fr Q d3
      refine nl (At.inBlock ?_)
      have d4 := bu.f P z
      have d5 := d4.f T z
      have d6 := d5.f Q z
      have d7 := bw.f P z
      have d8 := d7.f T z
      have d9 := d8.f Q z
      have ea := dJ.st T z
      have eb := ea.st Q z
      have ec := bA.f Q z
      have ed := bB.f Q z
      exact At.round (D.Scale, D.Zero, D.Pos.Offset, D.Pos.Counts, D.Neg.Offset, D.Neg.Counts, E.Scale, E.Zero, E.Pos.Offset, E.Pos.Counts, E.Neg.Offset, E.Neg.Counts, bh, (Value.slice ba bb bc), (Value.slice bd bf bg), (Value.slice bi bj bk), (Value.slice bl bm bn)) eP (Nat.lt_succ_self _) ⟨next1 h al, (tr_ (su_ H z) (tr_ (su_ t z) (tr_ (su_ l z) (tr_ (su_ j z) (tr_ (su_ S z) (tr_ (su_ P z) (tr_ (su_ T z) (su_ Q z)))))))), d6, d9, eb, ec, ed, d3⟩ (.cons z (.cons z (.cons z (.cons z .nil))))
theorem c_num_Odd {a0 : UInt64} {w : World} {r0 : Bool} (h : num_Odd a0 = some r0) : Rets Try.prog 117 [vu a0] w (fun v w' => v = vB r0 ∧ Ext w w') := by
 unfold num_Odd at h
 refine Rets.enter Try.func117 z z ?_
 refine (show WC _ _ _ _ [(0, vu a0)] _ from ?_)
 refine sq (rg (wY (ya z) z (nl (th (sq (rg (wY (ym z) z (wY (Y.andNot_u (b := 9223372036854775808) z z) z (wY (Y.gtr_u (b := 9218868437227405312) z z) z ?_)))))))))
 obtain ⟨l, d, h⟩ := lt1 h
 refine WL.yE (ya z) (congrArg vB d.symm) z (nl (th (rt ?_)))
 obtain rfl := some1 h
 have j : Stp [] (Lg.O0 (fun _ => False)) w (Lg.O0 (fun _ => False)) w := (sr_ _ _ _)
 exact At.res (.inl z) z (.tmp z .nil) ⟨z, (se_ j z z)⟩
theorem c_num_Canon {a0 : UInt64} {w : World} {r0 : UInt64} (h : num_Canon a0 = some r0) : Rets Try.prog 114 [vu a0] w (fun v w' => v = vu r0 ∧ Ext w w') := by
 unfold num_Canon at h
 refine Rets.enter Try.func114 z z ?_
 refine (show WC _ _ _ _ [(0, vu a0)] _ from ?_)
 refine sq (rg (wY (ya (v := vu 0) z) z (nl (th (sq (sq (rg (wY (ym z) z ?_))))))))
 obtain ⟨H, o, h⟩ := bnd h
 refine WL.call (vals := [vu a0]) kok117 z z (c_num_Odd o) ?_
 rintro G l ⟨rfl, t⟩
 obtain ⟨m, E, F, j⟩ := adoptE (Lg.O0 (fun _ => False)) (fun k => 1) t
 refine nl (th ?_)
 rcases cnd h with ⟨d, h⟩ | ⟨d, h⟩
 ·refine WC.condT' z d (sq (rg (wY (ya (v := vu 9221120237041090561) z) z (nl (th (rt (At.thenR ?_)))))))
  obtain rfl := some1 h
  have C : Stp [] (Lg.O0 (fun _ => False)) w m l := (su_ j z)
  exact At.res (.inl z) z (.tmp z .nil) ⟨z, (se_ C z z)⟩
 ·refine WC.condF' z d (sk (th (sq (rg (wY (ym z) z (wY (ya z) z (nl (th (rt ?_)))))))))
  obtain rfl := some1 h
  have D : Stp [] (Lg.O0 (fun _ => False)) w m l := (su_ j z)
  exact At.res (.inl z) z (.tmp z .nil) ⟨z, (se_ D z z)⟩
theorem num_Canon_eq (a : UInt64) : num_Canon a = some (fCan a.toNat) := by
  have e : UInt64.ofNat a.toNat = a := UInt64.toNat_inj.1 (by rw [UInt64.toNat_ofNat']; have := UInt64.toNat_lt a; omega)
  unfold num_Canon num_Odd fCan lett
  rw [fodd_of]
  cases fOdd a.toNat
  · rw [if_neg (by simp), e]; rfl
  · rw [if_pos rfl]; rfl
theorem c_num_bits {r : Nat} {w : World} (hr : r < 18446744073709551616) : Rets Try.prog 110 [.float .f64 r] w (fun v w' => v = vu (fCan r) ∧ Ext w w') := by
  refine Rets.enter Try.func110 z z ?_
  refine (show WC _ _ _ _ [(0, .float .f64 r)] _ from ?_)
  refine sq (rg (wY (ya (v := vu 0) z) z (nl (th ?_))))
  refine sq (rg ?_)
  refine wY (ym z) z ?_
  have er : (UInt64.ofNat r).toNat = r := by rw [UInt64.toNat_ofNat']; omega
  refine wY (Y.fbits xbits_115 hr z) z (WL.call (vals := [vu (UInt64.ofNat r)]) kok114 z z (c_num_Canon (num_Canon_eq _)) ?_)
  rintro C j ⟨rfl, l⟩
  obtain ⟨t, m, o, d⟩ := adoptE (Lg.O0 (fun _ => False)) (fun k => 1) l
  refine wY (ya z) z (nl (th (rt ?_)))
  have hs : Stp [] (Lg.O0 (fun _ => False)) w t j := (su_ d z)
  rw [er]
  exact At.res (.inl z) z (.tmp z .nil) ⟨z, se_ hs z z⟩
theorem c_num_parts {r s : Nat} {w : World} (hr : r < 18446744073709551616) (hs0 : s < 18446744073709551616) : Rets Try.prog 96 [.complex .f64 r s] w (fun v w' => v = .tuple (List.toArray [vu (fCan r), vu (fCan s)]) ∧ Ext w w') := by
  refine Rets.enter Try.func96 z z ?_
  refine (show WC _ _ _ _ [(0, .complex .f64 r s)] _ from ?_)
  refine sq (rg (wY (ya (v := vu 0) z) z (wY (ya (v := vu 0) z) z (nl (th ?_)))))
  refine sq (rg ?_)
  refine wY (ym z) z (wY (Y.creal z) z (WL.call (vals := [.float .f64 r]) kok110 z z (c_num_bits hr) ?_))
  rintro H I ⟨rfl, l⟩
  obtain ⟨F, t, C, d⟩ := adoptE (Lg.O0 (fun _ => False)) (fun k => 1) l
  refine wY (ym z) z (wY (Y.cimag z) z (WL.call (vals := [.float .f64 s]) kok110 z z (c_num_bits hs0) ?_))
  rintro J m ⟨rfl, o⟩
  obtain ⟨G, D, E, j⟩ := adoptE F (fun k => 1) o
  refine wY (ya z) z (wY (ya z) z (nl (th (rt ?_))))
  have hs : Stp [] (Lg.O0 (fun _ => False)) w G m := (tr_ (su_ d z) (su_ j z))
  exact At.res (.inl z) z (.tmp z (.tmp z .nil)) ⟨z, se_ hs z z⟩
theorem c_num_phasor {a0 a1 : UInt64} {w : World} : Rets Try.prog 97 [vu a0, vu a1] w (fun v w' => v = .complex .f64 a0.toNat a1.toNat ∧ Ext w w') := by
  refine Rets.enter Try.func97 z z ?_
  refine (show WC _ _ _ _ [(0, vu a0), (1, vu a1)] _ from ?_)
  refine sq (rg (wY (ya (v := .complex .f64 0 0) z) z (nl (th ?_))))
  refine sq (rg ?_)
  refine wY (ym z) z (WL.call (vals := [vu a0]) kok72 z z (c_num_of) ?_)
  rintro H I ⟨rfl, l⟩
  obtain ⟨F, t, C, d⟩ := adoptE (Lg.O0 (fun _ => False)) (fun k => 1) l
  refine wY (ym z) z (WL.call (vals := [vu a1]) kok72 z z (c_num_of) ?_)
  rintro J m ⟨rfl, o⟩
  obtain ⟨G, D, E, j⟩ := adoptE F (fun k => 1) o
  refine wY (Y.cplx z z) z ?_
  refine wY (ya z) z (nl (th (rt ?_)))
  have hs : Stp [] (Lg.O0 (fun _ => False)) w G m := (tr_ (su_ d z) (su_ j z))
  exact At.res (.inl z) z (.tmp z .nil) ⟨z, se_ hs z z⟩
theorem c_num_AddPhasor {a0 : UInt64} {a1 : UInt64} {a2 : UInt64} {a3 : UInt64} {w : World} {r0 : UInt64} {r1 : UInt64} (h : num_AddPhasor a0 a1 a2 a3 = some (r0, r1)) : Rets Try.prog 74 [vu a0, vu a1, vu a2, vu a3] w (fun v w' => v = tp [vu r0, vu r1] ∧ Ext w w') := by
  unfold num_AddPhasor at h
  obtain ⟨rfl, rfl⟩ := tup2 h
  refine Rets.enter Try.func74 z z ?_
  refine (show WC _ _ _ _ [(0, vu a0), (1, vu a1), (2, vu a2), (3, vu a3)] _ from ?_)
  refine sq (rg (wY (ya (v := vu 0) z) z (wY (ya (v := vu 0) z) z (nl (th ?_)))))
  refine sq (rg ?_)
  refine wY (ym z) z (wY (ym z) z (WL.call (vals := [vu a0, vu a1]) kok97 z z (c_num_phasor) ?_))
  rintro U V ⟨rfl, C⟩
  obtain ⟨P, H, I, l⟩ := adoptE (Lg.O0 (fun _ => False)) (fun k => 1) C
  refine wY (ym z) z (wY (ym z) z (WL.call (vals := [vu a2, vu a3]) kok97 z z (c_num_phasor) ?_))
  rintro W X ⟨rfl, D⟩
  obtain ⟨E, J, K, m⟩ := adoptE P (fun k => 1) D
  refine WL.cadd (O := E) z z z ?_
  intro Q S Z o d j
  refine WL.call (vals := [.complex .f64 Q S]) kok96 z z (c_num_parts d.1 j.1) ?_
  rintro aa F ⟨rfl, G⟩
  obtain ⟨T, L, M, t⟩ := adoptE E (fun k => 1) G
  refine wY (yx z z) z (wY (yx z z) z ?_)
  refine wY (ya z) z (wY (ya z) z (nl (th (rt ?_))))
  rw [fAdd_res d, fAdd_res j]
  have hs : Stp [] (Lg.O0 (fun _ => False)) w T F := (tr_ (su_ l z) (tr_ (su_ m z) (tr_ (su_ o z) (su_ t z))))
  exact At.res (.inl z) z (.tmp z (.tmp z .nil)) ⟨z, se_ hs z z⟩
theorem c_tocum_finite {A : Nat → Prop} {a0 : List UInt64} {v0 : Value} {w : World} (hs0 : Sl Rep.u w A v0 a0) {r0 : Bool} (h : tocum_finite a0 = some r0) : Rets Try.prog 75 [v0] w (fun v w' => v = vB r0 ∧ Ext w w') := by
 unfold tocum_finite at h
 refine Rets.enter Try.func75 z z ?_
 have C : Sl Rep.u w (imm (Lg.O0 A)) v0 a0 := (Sl.start hs0)
 refine (show WC _ _ _ _ [(0, v0)] _ from ?_)
 refine sq (rg (wY (ya z) z (nl (th (sq (sq (rg (wY (ym z) z (wY (Y.len ty26 z C) z ?_)))))))))
 refine wY (ym z) z (nl (th (WC.block ?_)))
 obtain ⟨H, h, D⟩ := flow1 h
 obtain ⟨I, h⟩ := loop_some h
 refine WC.joinB 0 (σ := Own) (fun x w' => H = .go () ∧ Stp [] (Lg.O0 A) w x w') (fun x => []) ?_ ?_
 ·refine WC.loop (σ := (Int × Own)) (fun x k w' => loopN k (tocum_finite_lp1 a0) x.1 = some H ∧ Stp [] (Lg.O0 A) w x.2 w') (fun x => [(5, v0), (6, vi (a0.length : Int)), (7, vi x.1)]) (0, (Lg.O0 A)) I (.cons z (.cons z (.cons z .nil))) ⟨h, (sr_ _ _ _)⟩ ?_
  rintro ⟨J, K⟩ I ak ⟨h, d⟩
  obtain ⟨ad, an, rfl, h, j⟩ := rnd1 h
  unfold tocum_finite_lp1 at h
  try dsimp only at h d
  refine (show WC _ _ _ _ [(5, v0), (6, vi (a0.length : Int)), (7, vi J)] _ from ?_)
  refine sq (rg (wY (Y.lss_i z z) z (nl (th (sq ?_)))))
  rcases cnd h with ⟨l, h⟩ | ⟨l, h⟩
  ·refine WC.condT' z l (sk (th (sq (WC.block (sq (rg ?_))))))
   obtain ⟨L, P, h⟩ := bnd h
   have Q := C.i d z z
   obtain ⟨ao, ai, aj, al, S, T, U, m, E, V⟩ := Sl.at2 Q P
   obtain rfl := E
   replace m : CellsAt _ _ _ [vu L] := m
   have F := CAt.imm m V
   refine wY (Y.indexAddr ty26 ty25 z S z T U) z (wY (yl ty25 z z F.at_) z (wY (ya z) z (nl (th (sq (rg (wY (ym z) z ?_)))))))
   obtain ⟨ap, W, h⟩ := bnd h
   refine WL.call (vals := [vu L]) kok40 z z (c_num_Finite W) ?_
   rintro am X ⟨rfl, Z⟩
   obtain ⟨M, ae, af, t⟩ := adoptE K (fun k => 1) Z
   refine wY (Y.not z) z (nl (th ?_))
   rcases cnd h with ⟨o, h⟩ | ⟨o, h⟩
   ·refine WC.condT' z o (sq (rg (wY (ya z) z (nl (th (rt (At.inBlockR (At.thenR (At.loopR ?_)))))))))
    have h := outr1 h j D
    refine At.joinBR (At.inBlockR (At.thenR ?_))
    obtain rfl := some1 h
    have aa : Stp [] (Lg.O0 A) w M X := (tr_ (su_ d z) (su_ t z))
    exact At.res (.inl z) z (.tmp z .nil) ⟨z, (se_ aa z z)⟩
   ·refine WC.condF' z o (sk (At.inBlock (th (rg (wY (Y.add_i z z) z (wY (ym z) z (nl ?_)))))))
    exact At.round (w64 (J + 1), M) ad (Nat.lt_succ_self _) ⟨next1 h j, (tr_ (su_ d z) (su_ t z))⟩ (.cons z (.cons z (.cons z .nil)))
  ·refine WC.condF' z l (WC.exit (At.thenX (At.loopX ?_)))
   exact At.hitB (σ := Own) K ⟨brk1 h j, (su_ d z)⟩ .nil
 ·rintro ah ab ⟨rfl, G⟩
  replace h := flowK_go D
  refine (show At _ _ _ [] _ from ?_)
  refine At.inBlockHit (th (sq (rg (wY (ya z) z (nl (th (rt ?_)))))))
  obtain rfl := some1 h
  have ac : Stp [] (Lg.O0 A) w ah ab := (su_ G z)
  exact At.res (.inl z) z (.tmp z .nil) ⟨z, (se_ ac z z)⟩
theorem c_tocum_add {A : Nat → Prop} {v0_9 : Value} {v0_11 : Value} {a0 : api_State} {b0 : Nat} {v1_1 : Value} {v1_13 : Value} {v1_15 : Value} {a1 : api_Point} {a2 : Int} {w : World} (hs0_9 : Sl Rep.u w A v0_9 a0.Hist.Pos.Counts) (hs0_11 : Sl Rep.u w A v0_11 a0.Hist.Neg.Counts) (hb0 : w.heap[b0]? = some (.cells (List.toArray [vB a0.Some, vi a0.Start, vi a0.Time, vi a0.Int_, vu a0.Re, vu a0.Im, vi a0.Hist.Scale, vu a0.Hist.Zero, vi a0.Hist.Pos.Offset, v0_9, vi a0.Hist.Neg.Offset, v0_11]) 32 (0, 0))) (hs1_1 : Sl rep_api_Pair w A v1_1 a1.Attrs) (hs1_13 : Sl Rep.u w A v1_13 a1.Hist.Pos.Counts) (hs1_15 : Sl Rep.u w A v1_15 a1.Hist.Neg.Counts) (hA : ∀ k, A k → k ≠ b0) {r0 : Bool} {q0 : api_State} (h : tocum_add a0 a1 a2 = some (r0, q0)) : Rets Try.prog 45 [pt b0 0, ag [vs a1.Name, v1_1, vi a1.Kind, vi a1.Temp, vB a1.Mono, vi a1.Start, vi a1.Time, vi a1.Int_, vu a1.Re, vu a1.Im, vi a1.Hist.Scale, vu a1.Hist.Zero, vi a1.Hist.Pos.Offset, v1_13, vi a1.Hist.Neg.Offset, v1_15, vi a1.Flags], vi a2] w (fun v w' => ∃ (a9 : Value) (aT : Value), v = vB r0 ∧ Mod (fun k => k = b0) w w' ∧ Sl Rep.u w' (fun k => A k ∨ w.heap.size ≤ k) a9 q0.Hist.Pos.Counts ∧ Sl Rep.u w' (fun k => A k ∨ w.heap.size ≤ k) aT q0.Hist.Neg.Counts ∧ w'.heap[b0]? = some (.cells (List.toArray [vB q0.Some, vi q0.Start, vi q0.Time, vi q0.Int_, vu q0.Re, vu q0.Im, vi q0.Hist.Scale, vu q0.Hist.Zero, vi q0.Hist.Pos.Offset, a9, vi q0.Hist.Neg.Offset, aT]) 32 (0, 0))) := by
 unfold tocum_add at h
 refine Rets.enter Try.func45 z z ?_
 have T : Sl Rep.u w (imm (Lg.OB b0 3 (Lg.O0 A))) v0_9 a0.Hist.Pos.Counts := (Sl.OB (Sl.start hs0_9) (fun k hk => (hA k (O0_A k hk))))
 have U : Sl Rep.u w (imm (Lg.OB b0 3 (Lg.O0 A))) v0_11 a0.Hist.Neg.Counts := (Sl.OB (Sl.start hs0_11) (fun k hk => (hA k (O0_A k hk))))
 have J : Blk 3 (Lg.OB b0 3 (Lg.O0 A)) w b0 32 [vB a0.Some, vi a0.Start, vi a0.Time, vi a0.Int_, vu a0.Re, vu a0.Im, vi a0.Hist.Scale, vu a0.Hist.Zero, vi a0.Hist.Pos.Offset, v0_9, vi a0.Hist.Neg.Offset, v0_11] := ⟨(if_pos z), hb0⟩
 have eN : Sl rep_api_Pair w (imm (Lg.OB b0 3 (Lg.O0 A))) v1_1 a1.Attrs := (Sl.OB (Sl.start hs1_1) (fun k hk => (hA k (O0_A k hk))))
 have aM : Sl Rep.u w (imm (Lg.OB b0 3 (Lg.O0 A))) v1_13 a1.Hist.Pos.Counts := (Sl.OB (Sl.start hs1_13) (fun k hk => (hA k (O0_A k hk))))
 have aN : Sl Rep.u w (imm (Lg.OB b0 3 (Lg.O0 A))) v1_15 a1.Hist.Neg.Counts := (Sl.OB (Sl.start hs1_15) (fun k hk => (hA k (O0_A k hk))))
 refine (show WC _ _ _ _ [(0, pt b0 0), (1, ag [vs a1.Name, v1_1, vi a1.Kind, vi a1.Temp, vB a1.Mono, vi a1.Start, vi a1.Time, vi a1.Int_, vu a1.Re, vu a1.Im, vi a1.Hist.Scale, vu a1.Hist.Zero, vi a1.Hist.Pos.Offset, v1_13, vi a1.Hist.Neg.Offset, v1_15, vi a1.Flags]), (2, vi a2)] _ from ?_)
 refine sq (rg ?_)
 have eO := h
 obtain ⟨fx, fy, fz, rfl⟩ := eN.shape
 have h := eO
 have eP := h
 obtain ⟨aU, aW, aX, rfl⟩ := aM.shape
 have h := eP
 have eQ := h
 obtain ⟨aY, aZ, a3, rfl⟩ := aN.shape
 have h := eQ
 refine WL.box (O := (Lg.OB b0 3 (Lg.O0 A))) 11 [vs a1.Name, (Value.slice fx fy fz), vi a1.Kind, vi a1.Temp, vB a1.Mono, vi a1.Start, vi a1.Time, vi a1.Int_, vu a1.Re, vu a1.Im, vi a1.Hist.Scale, vu a1.Hist.Zero, vi a1.Hist.Pos.Offset, (Value.slice aU aW aX), vi a1.Hist.Neg.Offset, (Value.slice aY aZ a3), vi a1.Flags] z z z ?_
 intro gq P f5 d V
 refine wY (ya z) z (nl (th (sq (sq (rg (wY (yf fo37_2 z) z (wY (yl ty3 z z (V.cell 2 _ z)) z (nl (th ?_)))))))))
 refine WC.block (sq (rg (wY (Y.eql_i z z) z ?_)))
 obtain ⟨gr, eR, h⟩ := lt1 h
 refine WL.yE (ya z) (congrArg vB eR.symm) z (nl (th ?_))
 rcases cnd h with ⟨aO, h⟩ | ⟨aO, h⟩
 ·refine WC.condT' z aO (sq (WC.draw 7 P fmix (by kernel_rfl) ?_))
  intro f6 H
  refine WS.y (ym z) z (WS.y (yn z) z (WS.y (yf fo32_3 z) z ?_))
  have eS := J.st d z
  have av := eS.st H z
  refine WS.y (yl ty3 z z (av.cell 3 _ z)) z (WS.y (yf fo37_7 z) z ?_)
  have aP := V.st H z
  refine WS.y (yl ty3 z z (aP.cell 7 _ z)) z (WS.y (Y.add_i z z) z (WS.tail ?_))
  obtain ⟨I, ba, h⟩ := lt1 h
  refine WL.yE (ya z) (congrArg vi ba.symm) z (nl (th (sq (sq (WC.drawH [] [0, 1, 2, 3, 4, 5, 6, 7, 8, 9, 10, 11, 12, 13, 14] P 15 fmix z (by kernel_rfl) ?_)))))
  intro bb D
  refine WD.y 0 z (by kernel_rfl) (fun _ _ _ => ym z) z (WD.y 1 z (by kernel_rfl) (fun _ _ _ => ym z) z (WD.y 2 z (by kernel_rfl) (fun _ _ _ => yn z) z (WD.y 3 z (by kernel_rfl) (fun _ _ _ => yf fo32_3 z) z (WD.y 4 z (by kernel_rfl) (fun f7 gs bx => have eT := av.st D z; have eU := eT.st bx z; yl ty3 z z (eU.cell 3 _ z)) z (WD.y 5 z (by kernel_rfl) (fun _ _ _ => Y.gtr_i z z) z (WD.y 6 z (by kernel_rfl) (fun _ _ _ => yf fo37_7 z) z (WD.y 7 z (by kernel_rfl) (fun f8 gt bz => have eV := aP.st D z; have eW := eV.st bz z; yl ty3 z z (eW.cell 7 _ z)) z (WD.y 8 z (by kernel_rfl) (fun _ _ _ => Y.gtr_i z z) z (WD.y 9 z (by kernel_rfl) (fun _ _ _ => Y.neqB z z ty4.u) z ?_)))))))))
  refine WD.y 10 z (by kernel_rfl) (fun _ _ _ => ym z) z ?_
  refine WD.join (σ := Unit) (f' := 0) [14, 13, 12, 11, 10, 9, 8, 7, 6, 5, 4, 3, 2, 1, 0] (fun _ O' w' => P = O' ∧ bb = w') (fun _ => [(0, pt b0 0), (7, vi I), (82, vB ((!decide (decide (a0.Int_ < I) = decide (0 < a1.Int_))) && (!decide (a1.Int_ = 0))))]) (fun bc => ?_) ?_
  ·refine WD.part 78 z (fun aQ => ?_) (fun aQ => ?_)
   ·refine WD.gT 11 z (by kernel_rfl) z z (fun _ _ _ => yf fo37_7 z) z (WD.gT 12 z (by kernel_rfl) z z (fun f9 gu bA => have eX := aP.st D z; have eY := eX.st bA z; yl ty3 z z (eY.cell 7 _ z)) z (WD.gT 13 z (by kernel_rfl) z z (fun _ _ _ => Y.neq_i z z) z (WD.y 14 z (by kernel_rfl) (fun _ _ _ => Y.pick (b := true) z z) z (WD.ren (v' := vB ((!decide (decide (a0.Int_ < I) = decide (0 < a1.Int_))) && (!decide (a1.Int_ = 0)))) 82 z (congrArg vB (andT aQ)) ?_))))
    exact bc () _ _ _ ⟨z, z⟩ (.cons z (.cons z (.cons z .nil)))
   ·refine WD.gS 11 z (by kernel_rfl) z z z z (WD.gS 12 z (by kernel_rfl) z z z z (WD.gS 13 z (by kernel_rfl) z z z z (WD.y 14 z (by kernel_rfl) (fun _ _ _ => Y.pick (b := false) z z) z (WD.ren (v' := vB ((!decide (decide (a0.Int_ < I) = decide (0 < a1.Int_))) && (!decide (a1.Int_ = 0)))) 82 z (congrArg vB (andF aQ)) ?_))))
    exact bc () _ _ _ ⟨z, z⟩ (.cons z (.cons z (.cons z .nil)))
  ·rintro _ _ _ ⟨rfl, rfl⟩
   refine (show WD _ _ _ _ _ _ _ _ [(0, pt b0 0), (7, vi I), (82, vB ((!decide (decide (a0.Int_ < I) = decide (0 < a1.Int_))) && (!decide (a1.Int_ = 0))))] _ _ from ?_)
   refine WD.done_ (by kernel_rfl) (th ?_)
   rcases cnd h with ⟨aw, h⟩ | ⟨aw, h⟩
   ·refine WC.condT' z aw (sq (rg (wY (ya z) z (nl (th (rt (At.thenR (At.inBlockR (At.thenR ?_)))))))))
    obtain ⟨rfl, rfl⟩ := tup2 h
    have ax : Stp [] (Lg.OB b0 3 (Lg.O0 A)) w P bb := (tr_ (su_ d z) (tr_ (su_ H z) (su_ D z)))
    have bB := av.st D z
    have bC := T.i d z z
    have bD := bC.i H z z
    have bE := bD.i D z z
    have bF := U.i d z z
    have bG := bF.i H z z
    have bH := bG.i D z z
    exact At.res (.inl z) z (.tmp z .nil) ⟨v0_9, v0_11, z, (Stp.modL ax sB1 z z), (Sl.outI bE ax (lowB low0 z z) (aB O0_A z)), (Sl.outI bH ax (lowB low0 z z) (aB O0_A z)), bB.blk⟩
   ·refine WC.condF' z aw (sk (th (rg (wY (ym z) z (wY (ym z) z (wY (yn z) z (wY (yf fo32_3 z) z ?_)))))))
    have bI := av.st D z
    refine WL.store (v := vi I) (cells' := [vB a0.Some, vi a0.Start, vi a0.Time, vi I, vu a0.Re, vu a0.Im, vi a0.Hist.Scale, vu a0.Hist.Zero, vi a0.Hist.Pos.Offset, v0_9, vi a0.Hist.Neg.Offset, v0_11]) ty3 z z bI z (le_ z) z z ?_
    intro bJ am bK
    refine nl (At.inBlock (th (sq (rg (wY (ya z) z (nl (th (rt ?_))))))))
    obtain ⟨rfl, rfl⟩ := tup2 h
    have ay : Stp [3] (Lg.OB b0 3 (Lg.O0 A)) w P bJ := (tr_ (su_ d z) (tr_ (su_ H z) (tr_ (su_ D z) (su_ am z))))
    have bL := T.i d z z
    have bM := bL.i H z z
    have bO := bM.i D z z
    have bP := bO.i am z z
    have bQ := U.i d z z
    have bR := bQ.i H z z
    have bS := bR.i D z z
    have bT := bS.i am z z
    exact At.res (.inl z) z (.tmp z .nil) ⟨v0_9, v0_11, z, (Stp.modL ay sB1 z z), (Sl.outI bP ay (lowB low0 z z) (aB O0_A z)), (Sl.outI bT ay (lowB low0 z z) (aB O0_A z)), bK.blk⟩
 ·refine WC.condF' z aO (sq (rg (wY (Y.eql_i z z) z ?_)))
  obtain ⟨ga, bU, h⟩ := lt1 h
  refine WL.yE (ya z) (congrArg vB bU.symm) z (nl (th ?_))
  rcases cnd h with ⟨az, h⟩ | ⟨az, h⟩
  ·refine WC.condT' z az (sq (WC.drawH [12, 13, 1001] [0, 1, 2, 3, 4, 5, 6, 7, 8, 9, 10, 11, 12, 13] P 14 fmix z (by kernel_rfl) ?_))
   intro bW j
   refine WD.y 0 z (by kernel_rfl) (fun _ _ _ => ym z) z (WD.y 1 z (by kernel_rfl) (fun _ _ _ => yn z) z (WD.y 2 z (by kernel_rfl) (fun _ _ _ => yf fo32_6 z) z (WD.y 3 z (by kernel_rfl) (fun fA gb bd => have bX := J.st d z; have bY := bX.st j z; have bZ := bY.st bd z; yL ty30 z z (bZ.cells 6 [vi a0.Hist.Scale, vu a0.Hist.Zero, vi a0.Hist.Pos.Offset, v0_9, vi a0.Hist.Neg.Offset, v0_11] z) z) z (WD.y 4 z (by kernel_rfl) (fun _ _ _ => yf fo37_10 z) z (WD.y 5 z (by kernel_rfl) (fun fB gc bf => have b1 := V.st j z; have b2 := b1.st bf z; yL ty30 z z (b2.cells 10 [vi a1.Hist.Scale, vu a1.Hist.Zero, vi a1.Hist.Pos.Offset, (Value.slice aU aW aX), vi a1.Hist.Neg.Offset, (Value.slice aY aZ a3)] z) z) z (WD.y 6 z (by kernel_rfl) (fun _ _ _ => ym z) z ?_))))))
   obtain ⟨eZ, h, b3⟩ := bnd h
   refine WD.join (σ := (Int × UInt64 × Int × List UInt64 × Int × List UInt64 × Bool × Own × Nat × Value × Value)) (f' := 2) [11, 10, 9, 8, 7, 6, 5, 4, 3, 2, 1, 0] (fun x O' w' => (x.1, x.2.1, x.2.2.1, x.2.2.2.1, x.2.2.2.2.1, x.2.2.2.2.2.1, x.2.2.2.2.2.2.1) = eZ ∧ Stp [12, 13] P bW x.2.2.2.2.2.2.2.1 w' ∧ Blk 1001 x.2.2.2.2.2.2.2.1 w' x.2.2.2.2.2.2.2.2.1 30 [vi 0, vu 0, vi 0, Value.slice none 0 0, vi 0, Value.slice none 0 0] ∧ Sl Rep.u w' (frs x.2.2.2.2.2.2.2.1) x.2.2.2.2.2.2.2.2.2.1 x.2.2.2.1 ∧ Sl Rep.u w' (frs x.2.2.2.2.2.2.2.1) x.2.2.2.2.2.2.2.2.2.2 x.2.2.2.2.2.1 ∧ x.2.2.2.2.2.2.2.1 = O') (fun x => [(0, pt b0 0), (8, Value.pointer (some ⟨x.2.2.2.2.2.2.2.2.1, 0, none⟩)), (98, ag [vi x.1, vu x.2.1, vi x.2.2.1, x.2.2.2.2.2.2.2.2.2.1, vi x.2.2.2.2.1, x.2.2.2.2.2.2.2.2.2.2]), (99, vB x.2.2.2.2.2.2.1)]) (fun a4 => ?_) ?_
   ·refine WD.heavy2 7 11 z z (by kernel_rfl) ?_ ?_
    ·have b4 := T.i d z z
     have b5 := b4.i j z z
     have b6 := U.i d z z
     have b7 := b6.i j z z
     have b8 := aM.i d z z
     have b9 := b8.i j z z
     have ca := aN.i d z z
     have cb := ca.i j z z
     obtain ⟨⟨Q, e0⟩, cc, h⟩ := bnd h
     refine WL.call (vals := [ag [vi a0.Hist.Scale, vu a0.Hist.Zero, vi a0.Hist.Pos.Offset, v0_9, vi a0.Hist.Neg.Offset, v0_11], ag [vi a1.Hist.Scale, vu a1.Hist.Zero, vi a1.Hist.Pos.Offset, (Value.slice aU aW aX), vi a1.Hist.Neg.Offset, (Value.slice aY aZ a3)], vi a2]) kok24 z z (c_tocum_Together (A := fun _ => True) (a0 := a0.Hist) (a1 := a1.Hist) (Sl.all b5) (Sl.all b7) (Sl.all b9) (Sl.all cb) cc) ?_
     rintro fC a5 ⟨bg, bh, rfl, cd, e1, e2⟩
     obtain ⟨aR, fp, ar, aJ⟩ := adoptE P (fun k => 1) cd
     have ce : Sl Rep.u a5 (frs aR) bg Q.Pos.Counts := Sl.adoptF e1 (fun k hk => ⟨hk, z⟩) ar
     have cf : Sl Rep.u a5 (frs aR) bh Q.Neg.Counts := Sl.adoptF e2 (fun k hk => ⟨hk, z⟩) ar
     refine nl (At.dq (su_ aJ z) (WD.y 8 z (by kernel_rfl) (fun _ _ _ => ym z) z (WD.y 9 z (by kernel_rfl) (fun _ _ _ => yx z z) z (WD.y 10 z (by kernel_rfl) (fun _ _ _ => yx z z) z (WD.heavy 11 z (by kernel_rfl) (WL.alloc (O := aR) 12 [vi 0, vu 0, vi 0, Value.slice none 0 0, vi 0, Value.slice none 0 0] ty30 z z ?_))))))
     intro e5 gd fD W cg
     refine nl (At.dq (su_ W z) ?_)
     obtain ⟨e6, X, ch⟩ := Blk.rlb 1001 rfl cg
     have ci := ce.f W z
     have cj := ci.f X z
     have ck := cf.f W z
     have cl := ck.f X z
     refine WD.own (su_ X z) (WD.perm _ [11, 10, 9, 8, 7, 6, 5, 4, 3, 2, 1, 0] (by kernel_rfl) ?_)
     exact a4 (Q.Scale, Q.Zero, Q.Pos.Offset, Q.Pos.Counts, Q.Neg.Offset, Q.Neg.Counts, e0, e6, e5, bg, bh) _ _ _ ⟨some1 h, (tr_ (su_ aJ z) (tr_ (su_ W z) (su_ X z))), ch, cj, cl, z⟩ (.cons z (.cons z (.cons z (.cons z .nil))))
    ·try simp only [Option.bind_assoc] at h
     try simp only [Option.bind_some] at h
     refine WL.alloc (O := P) 13 [vi 0, vu 0, vi 0, Value.slice none 0 0, vi 0, Value.slice none 0 0] ty30 z z ?_
     intro e7 e8 fF K cm
     refine nl (At.dq (su_ K z) (WD.heavy 7 z (by kernel_rfl) ?_))
     have cn := T.i d z z
     have co := cn.i j z z
     have cp := co.i K z z
     have cq := U.i d z z
     have cr := cq.i j z z
     have cs := cr.i K z z
     have ct := aM.i d z z
     have cu := ct.i j z z
     have cv := cu.i K z z
     have cw := aN.i d z z
     have cx := cw.i j z z
     have cy := cx.i K z z
     obtain ⟨⟨S, e9⟩, cz, h⟩ := bnd h
     refine WL.call (vals := [ag [vi a0.Hist.Scale, vu a0.Hist.Zero, vi a0.Hist.Pos.Offset, v0_9, vi a0.Hist.Neg.Offset, v0_11], ag [vi a1.Hist.Scale, vu a1.Hist.Zero, vi a1.Hist.Pos.Offset, (Value.slice aU aW aX), vi a1.Hist.Neg.Offset, (Value.slice aY aZ a3)], vi a2]) kok24 z z (c_tocum_Together (A := fun _ => True) (a0 := a0.Hist) (a1 := a1.Hist) (Sl.all cp) (Sl.all cs) (Sl.all cv) (Sl.all cy) cz) ?_
     rintro fG a6 ⟨bi, bj, rfl, cA, fa, fb⟩
     obtain ⟨bk, fq, au, an⟩ := adoptE e8 (fun k => 1) cA
     have cC : Sl Rep.u a6 (frs bk) bi S.Pos.Counts := Sl.adoptF fa (fun k hk => ⟨hk, z⟩) au
     have cD : Sl Rep.u a6 (frs bk) bj S.Neg.Counts := Sl.adoptF fb (fun k hk => ⟨hk, z⟩) au
     refine nl (At.dq (su_ an z) (WD.y 8 z (by kernel_rfl) (fun _ _ _ => ym z) z (WD.y 9 z (by kernel_rfl) (fun _ _ _ => yx z z) z (WD.y 10 z (by kernel_rfl) (fun _ _ _ => yx z z) z ?_))))
     have cE := cm.st an z
     obtain ⟨fc, Z, cF⟩ := Blk.rlb 1001 rfl cE
     have cG := cC.f Z z
     have cH := cD.f Z z
     refine WD.own (su_ Z z) (WD.perm _ [11, 10, 9, 8, 7, 6, 5, 4, 3, 2, 1, 0] (by kernel_rfl) ?_)
     exact a4 (S.Scale, S.Zero, S.Pos.Offset, S.Pos.Counts, S.Neg.Offset, S.Neg.Counts, e9, fc, e7, bi, bj) _ _ _ ⟨some1 h, (tr_ (su_ K z) (tr_ (su_ an z) (su_ Z z))), cF, cG, cH, z⟩ (.cons z (.cons z (.cons z (.cons z .nil))))
   ·rintro ⟨ab, ac, ad, ge, ae, gf, fd, bl, fe, ff, fg⟩ _ fH ⟨rfl, G, a7, aA, aC, rfl⟩
    replace h := b3
    try dsimp only at h G a7 aA aC
    refine (show WD _ _ _ _ _ _ _ _ [(0, pt b0 0), (8, pt fe 0), (98, ag [vi ab, vu ac, vi ad, ff, vi ae, fg]), (99, vB fd)] _ _ from ?_)
    refine WD.heavy 12 z (by kernel_rfl) ?_
    have cI := h
    obtain ⟨af, ah, ai, rfl⟩ := aA.shape
    have h := cI
    have cJ := h
    obtain ⟨aj, ak, al, rfl⟩ := aC.shape
    have h := cJ
    refine WL.store (v := ag [vi ab, vu ac, vi ad, (Value.slice af ah ai), vi ae, (Value.slice aj ak al)]) (cells' := [vi ab, vu ac, vi ad, (Value.slice af ah ai), vi ae, (Value.slice aj ak al)]) ty30 z z a7 z (le_ z) z z ?_
    intro cK E cL
    refine nl (At.dq (su_ E z) (WD.y 13 z (by kernel_rfl) (fun _ _ _ => ya z) z (WD.done_ (by kernel_rfl) (th (sq (sq (rg (wY (ym z) z (wY (Y.not z) z ?_)))))))))
    refine nl (th ?_)
    rcases cnd h with ⟨aD, h⟩ | ⟨aD, h⟩
    ·refine WC.condT' z aD (sq (rg (wY (ya z) z (nl (th (rt (At.thenR (At.inBlockR (At.thenR ?_)))))))))
     obtain ⟨rfl, rfl⟩ := tup2 h
     have aE : Stp [12, 13, 1001] (Lg.OB b0 3 (Lg.O0 A)) w bl cK := (tr_ (su_ d z) (tr_ (su_ j z) (tr_ (su_ G z) (su_ E z))))
     have cM := J.st d z
     have cN := cM.st j z
     have cO := cN.st G z
     have cP := cO.st E z
     have cQ := T.i d z z
     have cR := cQ.i j z z
     have cS := cR.i G z z
     have cT := cS.i E z z
     have cU := U.i d z z
     have cV := cU.i j z z
     have cW := cV.i G z z
     have cX := cW.i E z z
     exact At.res (.inl z) z (.tmp z .nil) ⟨v0_9, v0_11, z, (Stp.modL aE sB1 z z), (Sl.outI cT aE (lowB low0 z z) (aB O0_A z)), (Sl.outI cX aE (lowB low0 z z) (aB O0_A z)), cP.blk⟩
    ·refine WC.condF' z aD (sk (th (rg (wY (ym z) z (wY (yL ty30 z z (cL.cells 0 [vi ab, vu ac, vi ad, (Value.slice af ah ai), vi ae, (Value.slice aj ak al)] z) z) z (wY (yn z) z (wY (yf fo32_6 z) z ?_)))))))
     have cY := J.st d z
     have cZ := cY.st j z
     have c0 := cZ.st G z
     have c1 := c0.st E z
     refine WL.store (v := ag [vi ab, vu ac, vi ad, (Value.slice af ah ai), vi ae, (Value.slice aj ak al)]) (cells' := [vB a0.Some, vi a0.Start, vi a0.Time, vi a0.Int_, vu a0.Re, vu a0.Im, vi ab, vu ac, vi ad, (Value.slice af ah ai), vi ae, (Value.slice aj ak al)]) ty30 z z c1 z (le_ z) z z ?_
     intro c2 ao c3
     refine nl (At.inBlock (th (sq (rg (wY (ya z) z (nl (th (rt ?_))))))))
     obtain ⟨rfl, rfl⟩ := tup2 h
     have aF : Stp [3, 12, 13, 1001] (Lg.OB b0 3 (Lg.O0 A)) w bl c2 := (tr_ (su_ d z) (tr_ (su_ j z) (tr_ (su_ G z) (tr_ (su_ E z) (su_ ao z)))))
     have c4 := aA.f E z
     have c5 := c4.f ao z
     have c6 := aC.f E z
     have c7 := c6.f ao z
     exact At.res (.inl z) z (.tmp z .nil) ⟨(Value.slice af ah ai), (Value.slice aj ak al), z, (Stp.modL aF sB1 z z), (Sl.outI (Sl.mono c5 frs_imm) aF (lowB low0 z z) (aB O0_A z)), (Sl.outI (Sl.mono c7 frs_imm) aF (lowB low0 z z) (aB O0_A z)), c3.blk⟩
  ·refine WC.condF' z az (sq (WC.drawH [] [0, 1, 2, 3, 4, 5, 6, 7, 8, 9, 10, 11, 12, 13, 14, 15, 16, 17] P 18 fmix z (by kernel_rfl) ?_))
   intro fI l
   refine WD.y 0 z (by kernel_rfl) (fun _ _ _ => ym z) z (WD.y 1 z (by kernel_rfl) (fun _ _ _ => yn z) z (WD.y 2 z (by kernel_rfl) (fun _ _ _ => yf fo32_4 z) z (WD.y 3 z (by kernel_rfl) (fun fJ gg bm => have c8 := J.st d z; have c9 := c8.st l z; have da := c9.st bm z; yl ty25 z z (da.cell 4 _ z)) z (WD.y 4 z (by kernel_rfl) (fun _ _ _ => ym z) z (WD.y 5 z (by kernel_rfl) (fun _ _ _ => yn z) z (WD.y 6 z (by kernel_rfl) (fun _ _ _ => yf fo32_5 z) z (WD.y 7 z (by kernel_rfl) (fun fK gh bn => have db := J.st d z; have dc := db.st l z; have dd := dc.st bn z; yl ty25 z z (dd.cell 5 _ z)) z (WD.y 8 z (by kernel_rfl) (fun _ _ _ => yf fo37_8 z) z (WD.y 9 z (by kernel_rfl) (fun fL gi bo => have de := V.st l z; have df := de.st bo z; yl ty25 z z (df.cell 8 _ z)) z ?_)))))))))
   refine WD.y 10 z (by kernel_rfl) (fun _ _ _ => yf fo37_9 z) z (WD.y 11 z (by kernel_rfl) (fun fN gj bp => have dg := V.st l z; have dh := dg.st bp z; yl ty25 z z (dh.cell 9 _ z)) z (WD.heavy 12 z (by kernel_rfl) ?_))
   obtain ⟨⟨L, M⟩, di, h⟩ := bnd h
   refine WL.call (vals := [vu a0.Re, vu a0.Im, vu a1.Re, vu a1.Im]) kok74 z z (c_num_AddPhasor di) ?_
   rintro fO fP ⟨rfl, dj⟩
   obtain ⟨bq, fr, fs, m⟩ := adoptE P (fun k => 1) dj
   refine nl (At.dq (su_ m z) (WD.y 13 z (by kernel_rfl) (fun _ _ _ => ym z) z (WD.y 14 z (by kernel_rfl) (fun _ _ _ => yx z z) z (WD.y 15 z (by kernel_rfl) (fun _ _ _ => yx z z) z (WD.y 16 z (by kernel_rfl) (fun _ _ _ => ya z) z (WD.y 17 z (by kernel_rfl) (fun _ _ _ => ya z) z (WD.done_ (by kernel_rfl) (th (sq ?_)))))))))
   refine sq (WC.drawH [] [0, 1, 2, 3, 4, 5, 6, 7, 8, 9, 10, 11, 12, 13, 14, 15, 16, 17, 18, 19, 20] bq 21 fmix z (by kernel_rfl) ?_)
   intro fQ C
   refine WD.y 0 z (by kernel_rfl) (fun _ _ _ => ym z) z (WD.y 1 z (by kernel_rfl) (fun _ _ _ => ym z) z (WD.heavy 2 z (by kernel_rfl) (WL.buildSlice (O := bq) (R := Rep.u) (vals := [(0, vu L), (1, vu M)]) 14 [vu L, vu M] (xs := [L, M]) (by decide) ty26 ty25 (by decide) (by decide) (fe_ z) (by kernel_rfl) z ⟨[vu L], [vu M], z, z, ⟨[vu M], [], z, z, z⟩⟩ z ?_)))
   intro fh fi fR o dk
   refine nl (At.dq (su_ o z) (WD.heavy 3 z (by kernel_rfl) ?_))
   obtain ⟨gk, dl, h⟩ := bnd h
   refine WL.call (vals := [fh]) kok75 z z (c_tocum_finite (A := fun _ => True) (dk.src.sl) dl) ?_
   rintro fT dm ⟨rfl, dn⟩
   obtain ⟨aS, ft, fu, t⟩ := adoptE fi (fun k => 1) dn
   refine nl (At.dq (su_ t z) (WD.y 4 z (by kernel_rfl) (fun _ _ _ => Y.not z) z (WD.y 5 z (by kernel_rfl) (fun _ _ _ => ym z) z ?_)))
   obtain ⟨fj, h, dp⟩ := bnd h
   refine WD.join (σ := (Bool × Own)) (f' := 0) [20, 19, 18, 17, 16, 15, 14, 13, 12, 11, 10, 9, 8, 7, 6, 5, 4, 3, 2, 1, 0] (fun x O' w' => x.1 = fj ∧ Stp [] aS dm x.2 w' ∧ x.2 = O') (fun x => [(0, pt b0 0), (10, vu L), (11, vu M), (50, vB x.1)]) (fun a8 => ?_) ?_
   ·rcases cnd h with ⟨aa, h⟩ | ⟨aa, h⟩
    ·refine WD.ren 35 z (congrArg vB aa) (WD.gT 6 z (by kernel_rfl) z z (fun _ _ _ => ym z) z (WD.gT 7 z (by kernel_rfl) z z (fun _ _ _ => yn z) z (WD.gT 8 z (by kernel_rfl) z z (fun _ _ _ => yf fo32_4 z) z (WD.gT 9 z (by kernel_rfl) z z (fun fU gl br => have dr := J.st d z; have ds := dr.st l z; have dt := ds.st m z; have du := dt.st C z; have dw := du.st o z; have dx := dw.st t z; have dy := dx.st br z; yl ty25 z z (dy.cell 4 _ z)) z (WD.gT 10 z (by kernel_rfl) z z (fun _ _ _ => ym z) z (WD.gT 11 z (by kernel_rfl) z z (fun _ _ _ => yn z) z (WD.gT 12 z (by kernel_rfl) z z (fun _ _ _ => yf fo32_5 z) z (WD.gT 13 z (by kernel_rfl) z z (fun fV gm bs => have dz := J.st d z; have dA := dz.st l z; have dB := dA.st m z; have dC := dB.st C z; have dD := dC.st o z; have dE := dD.st t z; have dF := dE.st bs z; yl ty25 z z (dF.cell 5 _ z)) z (WD.gT 14 z (by kernel_rfl) z z (fun _ _ _ => yf fo37_8 z) z ?_)))))))))
     refine WD.gT 15 z (by kernel_rfl) z z (fun fY gn bt => have dG := V.st l z; have dH := dG.st m z; have dI := dH.st C z; have dJ := dI.st o z; have dK := dJ.st t z; have dL := dK.st bt z; yl ty25 z z (dL.cell 8 _ z)) z (WD.gT 16 z (by kernel_rfl) z z (fun _ _ _ => yf fo37_9 z) z (WD.gT 17 z (by kernel_rfl) z z (fun f0 gp bu => have dM := V.st l z; have dN := dM.st m z; have dO := dN.st C z; have dP := dO.st o z; have dQ := dP.st t z; have dR := dQ.st bu z; yl ty25 z z (dR.cell 9 _ z)) z (WD.heavy 18 z (by kernel_rfl) (ug z z (WL.buildSlice (O := aS) (R := Rep.u) (vals := [(0, vu a0.Re), (1, vu a0.Im), (2, vu a1.Re), (3, vu a1.Im)]) 15 [vu a0.Re, vu a0.Im, vu a1.Re, vu a1.Im] (xs := [a0.Re, a0.Im, a1.Re, a1.Im]) (by decide) ty26 ty25 (by decide) (by decide) (fe_ z) (by kernel_rfl) z ⟨[vu a0.Re], [vu a0.Im, vu a1.Re, vu a1.Im], z, z, ⟨[vu a0.Im], [vu a1.Re, vu a1.Im], z, z, ⟨[vu a1.Re], [vu a1.Im], z, z, ⟨[vu a1.Im], [], z, z, z⟩⟩⟩⟩ z ?_)))))
     intro fk fl f1 aK dS
     refine nl (At.dq (su_ aK z) (WD.heavy 19 z (by kernel_rfl) (ug z z ?_)))
     obtain ⟨fm, dT, h⟩ := bnd h
     refine WL.call (vals := [fk]) kok75 z z (c_tocum_finite (A := fun _ => True) (dS.src.sl) dT) ?_
     rintro f2 f3 ⟨rfl, dU⟩
     obtain ⟨fn, fv, fw, aL⟩ := adoptE fl (fun k => 1) dU
     refine nl (At.dq (su_ aL z) (WD.y 20 z (by kernel_rfl) (fun _ _ _ => Y.pick (b := true) z z) z (WD.ren 35 z (congrArg vB aa.symm) ?_)))
     exact a8 (fm, fn) _ _ _ ⟨some1 h, (tr_ (su_ aK z) (su_ aL z)), z⟩ (.cons z (.cons z (.cons z (.cons z .nil))))
    ·refine WD.ren 35 z (congrArg vB aa) (WD.gS 6 z (by kernel_rfl) z z z z (WD.gS 7 z (by kernel_rfl) z z z z (WD.gS 8 z (by kernel_rfl) z z z z (WD.gS 9 z (by kernel_rfl) z z z z (WD.gS 10 z (by kernel_rfl) z z z z (WD.gS 11 z (by kernel_rfl) z z z z (WD.gS 12 z (by kernel_rfl) z z z z (WD.gS 13 z (by kernel_rfl) z z z z (WD.gS 14 z (by kernel_rfl) z z z z ?_)))))))))
     refine WD.gS 15 z (by kernel_rfl) z z z z (WD.gS 16 z (by kernel_rfl) z z z z (WD.gS 17 z (by kernel_rfl) z z z z (WD.heavy 18 z (by kernel_rfl) (WL.gS z z z z (nl (At.dq (sr_ _ _ _) (WD.heavy 19 z (by kernel_rfl) (WL.gS z z z z (nl ?_)))))))))
     refine At.dq (sr_ _ _ _) (WD.y 20 z (by kernel_rfl) (fun _ _ _ => Y.pick (b := false) z z) z (WD.ren 35 z (congrArg vB aa.symm) ?_))
     exact a8 (false, aS) _ _ _ ⟨some1 h, (sr_ _ _ _), z⟩ (.cons z (.cons z (.cons z (.cons z .nil))))
   ·rintro ⟨fo, bw⟩ _ dV ⟨rfl, F, rfl⟩
    replace h := dp
    try dsimp only at h F
    refine (show WD _ _ _ _ _ _ _ _ [(0, pt b0 0), (10, vu L), (11, vu M), (50, vB fo)] _ _ from ?_)
    refine WD.done_ (by kernel_rfl) (th ?_)
    rcases cnd h with ⟨aG, h⟩ | ⟨aG, h⟩
    ·refine WC.condT' z aG (sq (rg (wY (ya z) z (nl (th (rt (At.thenR (At.inBlockR (At.thenR ?_)))))))))
     obtain ⟨rfl, rfl⟩ := tup2 h
     have aH : Stp [] (Lg.OB b0 3 (Lg.O0 A)) w bw dV := (tr_ (su_ d z) (tr_ (su_ l z) (tr_ (su_ m z) (tr_ (su_ C z) (tr_ (su_ o z) (tr_ (su_ t z) (su_ F z)))))))
     have dW := J.st d z
     have dX := dW.st l z
     have dY := dX.st m z
     have dZ := dY.st C z
     have d0 := dZ.st o z
     have d1 := d0.st t z
     have d2 := d1.st F z
     have d3 := T.i d z z
     have d4 := d3.i l z z
     have d5 := d4.i m z z
     have d6 := d5.i C z z
     have d7 := d6.i o z z
     have d8 := d7.i t z z
     have d9 := d8.i F z z
     have ea := U.i d z z
     have eb := ea.i l z z
     have ec := eb.i m z z
     have ed := ec.i C z z
     have ee := ed.i o z z
     have ef := ee.i t z z
     have eg := ef.i F z z
     exact At.res (.inl z) z (.tmp z .nil) ⟨v0_9, v0_11, z, (Stp.modL aH sB1 z z), (Sl.outI d9 aH (lowB low0 z z) (aB O0_A z)), (Sl.outI eg aH (lowB low0 z z) (aB O0_A z)), d2.blk⟩
    ·refine WC.condF' z aG (sk (th (rg (wY (ym z) z (wY (ym z) z (wY (ym z) z (wY (ym z) z (wY (yn z) z (wY (yf fo32_4 z) z ?_)))))))))
     have eh := J.st d z
     have ei := eh.st l z
     have ej := ei.st m z
     have ek := ej.st C z
     have em := ek.st o z
     have en := em.st t z
     have eo := en.st F z
     refine WL.store (v := vu L) (cells' := [vB a0.Some, vi a0.Start, vi a0.Time, vi a0.Int_, vu L, vu a0.Im, vi a0.Hist.Scale, vu a0.Hist.Zero, vi a0.Hist.Pos.Offset, v0_9, vi a0.Hist.Neg.Offset, v0_11]) ty25 z z eo z (le_ z) z z ?_
     intro f4 ap ep
     refine wY (yn z) z (wY (yf fo32_5 z) z (WL.store (v := vu M) (cells' := [vB a0.Some, vi a0.Start, vi a0.Time, vi a0.Int_, vu L, vu M, vi a0.Hist.Scale, vu a0.Hist.Zero, vi a0.Hist.Pos.Offset, v0_9, vi a0.Hist.Neg.Offset, v0_11]) ty25 z z ep z (le_ z) z z ?_))
     intro es aq et
     refine nl (At.inBlock (th (sq (rg (wY (ya z) z (nl (th (rt ?_))))))))
     obtain ⟨rfl, rfl⟩ := tup2 h
     have aI : Stp [3] (Lg.OB b0 3 (Lg.O0 A)) w bw es := (tr_ (su_ d z) (tr_ (su_ l z) (tr_ (su_ m z) (tr_ (su_ C z) (tr_ (su_ o z) (tr_ (su_ t z) (tr_ (su_ F z) (tr_ (su_ ap z) (su_ aq z)))))))))
     have eu := T.i d z z
     have ew := eu.i l z z
     have ex := ew.i m z z
     have ey := ex.i C z z
     have ez := ey.i o z z
     have eA := ez.i t z z
     have eB := eA.i F z z
     have eC := eB.i ap z z
     have eD := eC.i aq z z
     have eE := U.i d z z
     have eF := eE.i l z z
     have eG := eF.i m z z
     have eH := eG.i C z z
     have eI := eH.i o z z
     have eJ := eI.i t z z
     have eK := eJ.i F z z
     have eL := eK.i ap z z
     have eM := eL.i aq z z
     exact At.res (.inl z) z (.tmp z .nil) ⟨v0_9, v0_11, z, (Stp.modL aI sB1 z z), (Sl.outI eD aI (lowB low0 z z) (aB O0_A z)), (Sl.outI eM aI (lowB low0 z z) (aB O0_A z)), et.blk⟩
theorem c_slices_Clone_uint64_uint64 {A : Nat → Prop} {a0 : List UInt64} {v0 : Value} {w : World} (hs0 : Sl Rep.u w A v0 a0) {r0 : List UInt64} (h : slices_Clone_uint64_uint64 a0 = some r0) : Rets Try.prog 76 [v0] w (fun v w' => ∃ (m : Value), v = m ∧ Ext w w' ∧ RowF Rep.u 25 w w' m r0) := by
  unfold slices_Clone_uint64_uint64 at h
  refine Rets.enter Try.func76 z z ?_
  refine (show WC _ _ _ _ [(0, v0)] _ from ?_)
  refine sq (rg (wY (ya z) z (nl (th ?_))))
  refine sq (sq (rg ?_))
  refine wY (ym z) z ?_
  rcases hs0.nilOr with ⟨rfl, rfl⟩ | ⟨q, n, c, rfl⟩
  · refine wY (Y.slnil (p := none) (n := 0) (c := 0) ty26.u z z) z (nl (th ?_))
    refine WC.condT z (sq (rg (wY (ya z) z (nl (th (rt (At.thenR ?_)))))))
    have : r0 = [] := by simpa [app] using h.symm
    subst this
    exact At.res (.inl z) z (.tmp z .nil) ⟨_, z, Ext.refl w, RowF.nil⟩
  · refine wY (Y.slnil (p := some _) ty26.u z z) z (nl (th ?_))
    refine WC.condF z (sk (th ?_))
    refine sq (rg ?_)
    have hs := hs0
    refine WL.buildSlice (O := Lg.O0 A) (R := Rep.u) (vals := []) 11 [] (xs := []) (by decide) ty26 ty25 (by decide) (by decide) (fe_ z) (by kernel_rfl) z z z ?_
    intro v F G d o
    refine wY (ym z) z ?_
    have t := (Sl.start hs).i d z z
    refine WL.append (by decide) ty26 ty25 z (by decide) z z o t.src h z ?_
    intro H D E l C
    refine wY (ya z) z (nl (th (rt ?_)))
    have j : Stp [11] (Lg.O0 A) w D E := (tr_ (su_ d z) l)
    exact At.res (.inl z) z (.tmp z .nil) ⟨_, z, se_ j z z, OwnSl.outF C j low0 z⟩
theorem c_hist_Clone {A : Nat → Prop} {v0_3 : Value} {v0_5 : Value} {a0 : api_Hist} {w : World} (hs0_3 : Sl Rep.u w A v0_3 a0.Pos.Counts) (hs0_5 : Sl Rep.u w A v0_5 a0.Neg.Counts) {r0 : api_Hist} (h : hist_Clone a0 = some r0) : Rets Try.prog 46 [ag [vi a0.Scale, vu a0.Zero, vi a0.Pos.Offset, v0_3, vi a0.Neg.Offset, v0_5]] w (fun v w' => ∃ (S : Value) (T : Value), v = ag [vi r0.Scale, vu r0.Zero, vi r0.Pos.Offset, S, vi r0.Neg.Offset, T] ∧ Ext w w' ∧ Sl Rep.u w' (fun k => w.heap.size ≤ k) S r0.Pos.Counts ∧ Sl Rep.u w' (fun k => w.heap.size ≤ k) T r0.Neg.Counts) := by
 unfold hist_Clone at h
 refine Rets.enter Try.func46 z z ?_
 have U : Sl Rep.u w (imm (Lg.O0 A)) v0_3 a0.Pos.Counts := (Sl.start hs0_3)
 have V : Sl Rep.u w (imm (Lg.O0 A)) v0_5 a0.Neg.Counts := (Sl.start hs0_5)
 refine (show WC _ _ _ _ [(0, ag [vi a0.Scale, vu a0.Zero, vi a0.Pos.Offset, v0_3, vi a0.Neg.Offset, v0_5])] _ from ?_)
 refine sq (rg ?_)
 have aO := h
 obtain ⟨aJ, aK, aL, rfl⟩ := U.shape
 have h := aO
 have aP := h
 obtain ⟨W, X, Z, rfl⟩ := V.shape
 have h := aP
 refine WL.box (O := (Lg.O0 A)) 11 [vi a0.Scale, vu a0.Zero, vi a0.Pos.Offset, (Value.slice aJ aK aL), vi a0.Neg.Offset, (Value.slice W X Z)] z z z ?_
 intro bA bi bs L P
 refine WL.alloc (O := bi) 12 [vi 0, vu 0, vi 0, Value.slice none 0 0, vi 0, Value.slice none 0 0] ty30 z z ?_
 intro bB aM bt m aQ
 refine nl (th (sq (WC.drawH [] [0, 1, 2, 3, 4, 5, 6, 7, 8, 9] aM 14 fmix z (by kernel_rfl) ?_)))
 intro bu d
 refine WD.y 0 z (by kernel_rfl) (fun _ _ _ => yf fo30_2 z) z (WD.y 1 z (by kernel_rfl) (fun _ _ _ => yf fo28_1 z) z (WD.y 2 z (by kernel_rfl) (fun bw bC af => have aR := P.st m z; have aS := aR.st d z; have aT := aS.st af z; yl ty26 z z (aT.cell 3 _ z)) z (WD.y 4 z (by kernel_rfl) (fun _ _ _ => yf fo30_3 z) z (WD.y 5 z (by kernel_rfl) (fun _ _ _ => yf fo28_1 z) z (WD.y 6 z (by kernel_rfl) (fun bx bD ah => have aU := P.st m z; have aW := aU.st d z; have aX := aW.st ah z; yl ty26 z z (aX.cell 5 _ z)) z (WD.heavy 3 z (by kernel_rfl) ?_))))))
 have aY := U.i L z z
 have aZ := aY.i m z z
 have a1 := aZ.i d z z
 obtain ⟨bj, a2, h⟩ := bnd h
 refine WL.call (vals := [(Value.slice aJ aK aL)]) kok76 z z (c_slices_Clone_uint64_uint64 (A := fun _ => True) (Sl.all a1) a2) ?_
 rintro aa a3 ⟨_, rfl, a4, bk⟩
 obtain ⟨aN, bl, ab, D⟩ := adoptE aM (fun k => if ob aa = some k then 13 else 1) a4
 have a5 : OwnSl 13 Rep.u 25 aN a3 aa bj := RowF.adopt 13 Flat.u bk ab (fun k hk => if_pos hk)
 refine nl (At.dq (su_ D z) (WD.y 8 z (by kernel_rfl) (fun _ _ _ => yf fo30_2 z) z (WD.y 9 z (by kernel_rfl) (fun _ _ _ => yf fo28_1 z) z (WD.heavy 7 z (by kernel_rfl) ?_))))
 have a6 := V.i L z z
 have a7 := a6.i m z z
 have a8 := a7.i d z z
 have a9 := a8.i D z z
 obtain ⟨bm, ba, h⟩ := bnd h
 refine WL.call (vals := [(Value.slice W X Z)]) kok76 z z (c_slices_Clone_uint64_uint64 (A := fun _ => True) (Sl.all a9) ba) ?_
 rintro ac bb ⟨_, rfl, bc, bn⟩
 obtain ⟨bo, bp, ad, E⟩ := adoptE aN (fun k => if ob ac = some k then 14 else 1) bc
 have bd : OwnSl 14 Rep.u 25 bo bb ac bm := RowF.adopt 14 Flat.u bn ad (fun k hk => if_pos hk)
 refine nl (At.dq (su_ E z) (WD.phase [11] [0, 1, 2, 3, 4, 5, 6, 7, 8, 9, 10, 11, 12] (by kernel_rfl) (by kernel_rfl) (WD.heavy 10 z (by kernel_rfl) ?_)))
 have ae := a5.st E z z z
 have bf := h
 obtain ⟨F, G, H, rfl⟩ := ae.shape
 have h := bf
 have bg := P.st m z
 have ai := bg.st d z
 have aj := ai.st D z
 have ak := aj.st E z
 refine WL.store (v := (Value.slice F G H)) (cells' := [vi a0.Scale, vu a0.Zero, vi a0.Pos.Offset, (Value.slice F G H), vi a0.Neg.Offset, (Value.slice W X Z)]) ty26 z z ak z (le_ z) z z ?_
 intro bq j al
 refine nl (At.dq (su_ j z) (WD.y 11 z (by kernel_rfl) (fun _ _ _ => yf fo30_3 z) z (WD.y 12 z (by kernel_rfl) (fun _ _ _ => yf fo28_1 z) z (WD.phase [11] [0, 1, 2, 3, 4, 5, 6, 7, 8, 9, 10, 11, 12, 13] (by kernel_rfl) (by kernel_rfl) (WD.heavy 13 z (by kernel_rfl) ?_)))))
 have Q := bd.st j z z z
 have am := h
 obtain ⟨o, t, C, rfl⟩ := Q.shape
 have h := am
 refine WL.store (v := (Value.slice o t C)) (cells' := [vi a0.Scale, vu a0.Zero, vi a0.Pos.Offset, (Value.slice F G H), vi a0.Neg.Offset, (Value.slice o t C)]) ty26 z z al z (le_ z) z z ?_
 intro br l an
 refine nl (At.dq (su_ l z) (WD.done_ (by kernel_rfl) (th (sq (rg (wY (yL ty30 z z (an.cells 0 [vi a0.Scale, vu a0.Zero, vi a0.Pos.Offset, (Value.slice F G H), vi a0.Neg.Offset, (Value.slice o t C)] z) z) z ?_))))))
 have ao := aQ.st d z
 have ap := ao.st D z
 have aq := ap.st E z
 have ar := aq.st j z
 have au := ar.st l z
 refine WL.store (v := ag [vi a0.Scale, vu a0.Zero, vi a0.Pos.Offset, (Value.slice F G H), vi a0.Neg.Offset, (Value.slice o t C)]) (cells' := [vi a0.Scale, vu a0.Zero, vi a0.Pos.Offset, (Value.slice F G H), vi a0.Neg.Offset, (Value.slice o t C)]) ty30 z z au z (le_ z) z z ?_
 intro av I aw
 refine nl (th (rt ?_))
 obtain rfl := some1 h
 have ax := ae.st j z z z
 have ay := ax.st l z z z
 have az := ay.st I z z z
 obtain ⟨bz, J, aA⟩ := OwnSl.giveF rfl Flat.u az
 have aC := Q.st l z z z
 have aD := aC.st I z z z
 have aE := aD.st J z z z
 obtain ⟨bh, K, aF⟩ := OwnSl.giveF rfl Flat.u aE
 have M : Stp [11, 12, 13, 14] (Lg.O0 A) w bh av := (tr_ (su_ L z) (tr_ (su_ m z) (tr_ (su_ d z) (tr_ (su_ D z) (tr_ (su_ E z) (tr_ (su_ j z) (tr_ (su_ l z) (tr_ (su_ I z) (tr_ (su_ J z) (su_ K z))))))))))
 have aG := aA.f K z
 have aH := aw.st J z
 have aI := aH.st K z
 exact At.res (.inl z) z (.cell z (aI.runAg 0 [vi a0.Scale, vu a0.Zero, vi a0.Pos.Offset, (Value.slice F G H), vi a0.Neg.Offset, (Value.slice o t C)] ty30 z z z) .nil) ⟨(Value.slice F G H), (Value.slice o t C), z, (se_ M z z), (Sl.outF aG M low0), (Sl.outF aF M low0)⟩
theorem c_slices_Clone_api_Pair_api_Pair {A : Nat → Prop} {a0 : List api_Pair} {v0 : Value} {w : World} (hs0 : Sl rep_api_Pair w A v0 a0) {r0 : List api_Pair} (h : slices_Clone_api_Pair_api_Pair a0 = some r0) : Rets Try.prog 88 [v0] w (fun v w' => ∃ (m : Value), v = m ∧ Ext w w' ∧ RowF rep_api_Pair 107 w w' m r0) := by
  unfold slices_Clone_api_Pair_api_Pair at h
  refine Rets.enter Try.func88 z z ?_
  refine (show WC _ _ _ _ [(0, v0)] _ from ?_)
  refine sq (rg (wY (ya z) z (nl (th ?_))))
  refine sq (sq (rg ?_))
  refine wY (ym z) z ?_
  rcases hs0.nilOr with ⟨rfl, rfl⟩ | ⟨q, n, c, rfl⟩
  · refine wY (Y.slnil (p := none) (n := 0) (c := 0) ty35.u z z) z (nl (th ?_))
    refine WC.condT z (sq (rg (wY (ya z) z (nl (th (rt (At.thenR ?_)))))))
    have : r0 = [] := by simpa [app] using h.symm
    subst this
    exact At.res (.inl z) z (.tmp z .nil) ⟨_, z, Ext.refl w, RowF.nil⟩
  · refine wY (Y.slnil (p := some _) ty35.u z z) z (nl (th ?_))
    refine WC.condF z (sk (th ?_))
    refine sq (rg ?_)
    have hs := hs0
    refine WL.buildSlice (O := Lg.O0 A) (R := rep_api_Pair) (vals := []) 11 [] (xs := []) (by decide) ty35 ty107 (by decide) (by decide) (fe_ z) (by kernel_rfl) z z z ?_
    intro v F G d o
    refine wY (ym z) z ?_
    have t := (Sl.start hs).i d z z
    refine WL.append (by decide) ty35 ty107 z (by decide) z z o t.src h z ?_
    intro H D E l C
    refine wY (ya z) z (nl (th (rt ?_)))
    have j : Stp [11] (Lg.O0 A) w D E := (tr_ (su_ d z) l)
    exact At.res (.inl z) z (.tmp z .nil) ⟨_, z, se_ j z z, OwnSl.outF C j low0 z⟩
theorem c_point_Clone {A : Nat → Prop} {v0_1 : Value} {v0_13 : Value} {v0_15 : Value} {a0 : api_Point} {w : World} (hs0_1 : Sl rep_api_Pair w A v0_1 a0.Attrs) (hs0_13 : Sl Rep.u w A v0_13 a0.Hist.Pos.Counts) (hs0_15 : Sl Rep.u w A v0_15 a0.Hist.Neg.Counts) {r0 : api_Point} (h : point_Clone a0 = some r0) : Rets Try.prog 64 [ag [vs a0.Name, v0_1, vi a0.Kind, vi a0.Temp, vB a0.Mono, vi a0.Start, vi a0.Time, vi a0.Int_, vu a0.Re, vu a0.Im, vi a0.Hist.Scale, vu a0.Hist.Zero, vi a0.Hist.Pos.Offset, v0_13, vi a0.Hist.Neg.Offset, v0_15, vi a0.Flags]] w (fun v w' => ∃ (ac : Value) (T : Value) (U : Value), v = ag [vs r0.Name, ac, vi r0.Kind, vi r0.Temp, vB r0.Mono, vi r0.Start, vi r0.Time, vi r0.Int_, vu r0.Re, vu r0.Im, vi r0.Hist.Scale, vu r0.Hist.Zero, vi r0.Hist.Pos.Offset, T, vi r0.Hist.Neg.Offset, U, vi r0.Flags] ∧ Ext w w' ∧ Sl rep_api_Pair w' (fun k => w.heap.size ≤ k) ac r0.Attrs ∧ Sl Rep.u w' (fun k => w.heap.size ≤ k) T r0.Hist.Pos.Counts ∧ Sl Rep.u w' (fun k => w.heap.size ≤ k) U r0.Hist.Neg.Counts) := by
 unfold point_Clone at h
 refine Rets.enter Try.func64 z z ?_
 have ad : Sl rep_api_Pair w (imm (Lg.O0 A)) v0_1 a0.Attrs := (Sl.start hs0_1)
 have ae : Sl Rep.u w (imm (Lg.O0 A)) v0_13 a0.Hist.Pos.Counts := (Sl.start hs0_13)
 have af : Sl Rep.u w (imm (Lg.O0 A)) v0_15 a0.Hist.Neg.Counts := (Sl.start hs0_15)
 refine (show WC _ _ _ _ [(0, ag [vs a0.Name, v0_1, vi a0.Kind, vi a0.Temp, vB a0.Mono, vi a0.Start, vi a0.Time, vi a0.Int_, vu a0.Re, vu a0.Im, vi a0.Hist.Scale, vu a0.Hist.Zero, vi a0.Hist.Pos.Offset, v0_13, vi a0.Hist.Neg.Offset, v0_15, vi a0.Flags])] _ from ?_)
 refine sq (rg ?_)
 have aK := h
 obtain ⟨aF, aG, aH, rfl⟩ := ad.shape
 have h := aK
 have aL := h
 obtain ⟨V, W, X, rfl⟩ := ae.shape
 have h := aL
 have aM := h
 obtain ⟨Z, aa, ab, rfl⟩ := af.shape
 have h := aM
 refine WL.box (O := (Lg.O0 A)) 11 [vs a0.Name, (Value.slice aF aG aH), vi a0.Kind, vi a0.Temp, vB a0.Mono, vi a0.Start, vi a0.Time, vi a0.Int_, vu a0.Re, vu a0.Im, vi a0.Hist.Scale, vu a0.Hist.Zero, vi a0.Hist.Pos.Offset, (Value.slice V W X), vi a0.Hist.Neg.Offset, (Value.slice Z aa ab), vi a0.Flags] z z z ?_
 intro bA bj bt F aN
 refine WL.alloc (O := bj) 12 [vs [], Value.slice none 0 0, vi 0, vi 0, vB false, vi 0, vi 0, vi 0, vu 0, vu 0, vi 0, vu 0, vi 0, Value.slice none 0 0, vi 0, Value.slice none 0 0, vi 0] ty37 z z ?_
 intro bB bk bu j aO
 refine nl (th (sq (rg (wY (yf fo37_1 z) z ?_))))
 have ah := aN.st j z
 refine wY (yl ty35 z z (ah.cell 1 _ z)) z ?_
 have aP := ad.i F z z
 have aQ := aP.i j z z
 obtain ⟨bl, aR, h⟩ := bnd h
 refine WL.call (vals := [(Value.slice aF aG aH)]) kok88 z z (c_slices_Clone_api_Pair_api_Pair (A := fun _ => True) (Sl.all aQ) aR) ?_
 rintro ai aS ⟨_, rfl, aT, bm⟩
 obtain ⟨aI, bn, aj, l⟩ := adoptE bk (fun k => if ob ai = some k then 13 else 1) aT
 have ak : OwnSl 13 rep_api_Pair 107 aI aS ai bl := RowF.adopt 13 flat_api_Pair bm aj (fun k hk => if_pos hk)
 refine wY (yf fo37_1 z) z ?_
 have aU := h
 obtain ⟨C, D, E, rfl⟩ := ak.shape
 have h := aU
 have aW := ah.st l z
 refine WL.store (v := (Value.slice C D E)) (cells' := [vs a0.Name, (Value.slice C D E), vi a0.Kind, vi a0.Temp, vB a0.Mono, vi a0.Start, vi a0.Time, vi a0.Int_, vu a0.Re, vu a0.Im, vi a0.Hist.Scale, vu a0.Hist.Zero, vi a0.Hist.Pos.Offset, (Value.slice V W X), vi a0.Hist.Neg.Offset, (Value.slice Z aa ab), vi a0.Flags]) ty35 z z aW z (le_ z) z z ?_
 intro bw m al
 refine nl (th (sq (rg (wY (yf fo37_10 z) z (wY (yL ty30 z z (al.cells 10 [vi a0.Hist.Scale, vu a0.Hist.Zero, vi a0.Hist.Pos.Offset, (Value.slice V W X), vi a0.Hist.Neg.Offset, (Value.slice Z aa ab)] z) z) z ?_)))))
 have aX := ae.i F z z
 have aY := aX.i j z z
 have aZ := aY.i l z z
 have a1 := aZ.i m z z
 have a2 := af.i F z z
 have a3 := a2.i j z z
 have a4 := a3.i l z z
 have a5 := a4.i m z z
 obtain ⟨d, a6, h⟩ := bnd h
 refine WL.call (vals := [ag [vi a0.Hist.Scale, vu a0.Hist.Zero, vi a0.Hist.Pos.Offset, (Value.slice V W X), vi a0.Hist.Neg.Offset, (Value.slice Z aa ab)]]) kok46 z z (c_hist_Clone (A := fun _ => True) (a0 := a0.Hist) (Sl.all a1) (Sl.all a5) a6) ?_
 rintro bx am ⟨bo, bp, rfl, a7, bq, br⟩
 obtain ⟨aJ, bs, S, G⟩ := adoptE aI (fun k => 1) a7
 have an : Sl Rep.u am (frs aJ) bo d.Pos.Counts := Sl.adoptF bq (fun k hk => ⟨hk, z⟩) S
 have ao : Sl Rep.u am (frs aJ) bp d.Neg.Counts := Sl.adoptF br (fun k hk => ⟨hk, z⟩) S
 refine wY (yf fo37_10 z) z ?_
 have a8 := h
 obtain ⟨J, K, L, rfl⟩ := an.shape
 have h := a8
 have a9 := h
 obtain ⟨M, P, Q, rfl⟩ := ao.shape
 have h := a9
 have ba := al.st G z
 refine WL.store (v := ag [vi d.Scale, vu d.Zero, vi d.Pos.Offset, (Value.slice J K L), vi d.Neg.Offset, (Value.slice M P Q)]) (cells' := [vs a0.Name, (Value.slice C D E), vi a0.Kind, vi a0.Temp, vB a0.Mono, vi a0.Start, vi a0.Time, vi a0.Int_, vu a0.Re, vu a0.Im, vi d.Scale, vu d.Zero, vi d.Pos.Offset, (Value.slice J K L), vi d.Neg.Offset, (Value.slice M P Q), vi a0.Flags]) ty30 z z ba z (le_ z) z z ?_
 intro bz o bb
 refine nl (th (sq (rg (wY (yL ty37 z z (bb.cells 0 [vs a0.Name, (Value.slice C D E), vi a0.Kind, vi a0.Temp, vB a0.Mono, vi a0.Start, vi a0.Time, vi a0.Int_, vu a0.Re, vu a0.Im, vi d.Scale, vu d.Zero, vi d.Pos.Offset, (Value.slice J K L), vi d.Neg.Offset, (Value.slice M P Q), vi a0.Flags] z) z) z ?_))))
 have bc := aO.st l z
 have bd := bc.st m z
 have bf := bd.st G z
 have bg := bf.st o z
 refine WL.store (v := ag [vs a0.Name, (Value.slice C D E), vi a0.Kind, vi a0.Temp, vB a0.Mono, vi a0.Start, vi a0.Time, vi a0.Int_, vu a0.Re, vu a0.Im, vi d.Scale, vu d.Zero, vi d.Pos.Offset, (Value.slice J K L), vi d.Neg.Offset, (Value.slice M P Q), vi a0.Flags]) (cells' := [vs a0.Name, (Value.slice C D E), vi a0.Kind, vi a0.Temp, vB a0.Mono, vi a0.Start, vi a0.Time, vi a0.Int_, vu a0.Re, vu a0.Im, vi d.Scale, vu d.Zero, vi d.Pos.Offset, (Value.slice J K L), vi d.Neg.Offset, (Value.slice M P Q), vi a0.Flags]) ty37 z z bg z (le_ z) z z ?_
 intro bh H ap
 refine nl (th (rt ?_))
 obtain rfl := some1 h
 have aq := ak.st m z z z
 have ar := aq.st G z z z
 have au := ar.st o z z z
 have av := au.st H z z z
 obtain ⟨bi, t, aw⟩ := OwnSl.giveF rfl flat_api_Pair av
 have I : Stp [11, 12, 13] (Lg.O0 A) w bi bh := (tr_ (su_ F z) (tr_ (su_ j z) (tr_ (su_ l z) (tr_ (su_ m z) (tr_ (su_ G z) (tr_ (su_ o z) (tr_ (su_ H z) (su_ t z))))))))
 have ax := an.f o z
 have ay := ax.f H z
 have az := ay.f t z
 have aA := ao.f o z
 have aC := aA.f H z
 have aD := aC.f t z
 have aE := ap.st t z
 exact At.res (.inl z) z (.cell z (aE.runAg 0 [vs a0.Name, (Value.slice C D E), vi a0.Kind, vi a0.Temp, vB a0.Mono, vi a0.Start, vi a0.Time, vi a0.Int_, vu a0.Re, vu a0.Im, vi d.Scale, vu d.Zero, vi d.Pos.Offset, (Value.slice J K L), vi d.Neg.Offset, (Value.slice M P Q), vi a0.Flags] ty37 z z z) .nil) ⟨(Value.slice C D E), (Value.slice J K L), (Value.slice M P Q), z, (se_ I z z), (Sl.outF aw I low0), (Sl.outF az I low0), (Sl.outF aD I low0)⟩
theorem c_tocum_answer {A : Nat → Prop} {v0_9 : Value} {v0_11 : Value} {a0 : api_State} {v1_1 : Value} {v1_13 : Value} {v1_15 : Value} {a1 : api_Point} {a2 : Int} {w : World} (hs0_9 : Sl Rep.u w A v0_9 a0.Hist.Pos.Counts) (hs0_11 : Sl Rep.u w A v0_11 a0.Hist.Neg.Counts) (hs1_1 : Sl rep_api_Pair w A v1_1 a1.Attrs) (hs1_13 : Sl Rep.u w A v1_13 a1.Hist.Pos.Counts) (hs1_15 : Sl Rep.u w A v1_15 a1.Hist.Neg.Counts) {r0 : api_Point} (h : tocum_answer a0 a1 a2 = some r0) : Rets Try.prog 47 [ag [vB a0.Some, vi a0.Start, vi a0.Time, vi a0.Int_, vu a0.Re, vu a0.Im, vi a0.Hist.Scale, vu a0.Hist.Zero, vi a0.Hist.Pos.Offset, v0_9, vi a0.Hist.Neg.Offset, v0_11], ag [vs a1.Name, v1_1, vi a1.Kind, vi a1.Temp, vB a1.Mono, vi a1.Start, vi a1.Time, vi a1.Int_, vu a1.Re, vu a1.Im, vi a1.Hist.Scale, vu a1.Hist.Zero, vi a1.Hist.Pos.Offset, v1_13, vi a1.Hist.Neg.Offset, v1_15, vi a1.Flags], vi a2] w (fun v w' => ∃ (aQ : Value) (aH : Value) (aI : Value), v = ag [vs r0.Name, aQ, vi r0.Kind, vi r0.Temp, vB r0.Mono, vi r0.Start, vi r0.Time, vi r0.Int_, vu r0.Re, vu r0.Im, vi r0.Hist.Scale, vu r0.Hist.Zero, vi r0.Hist.Pos.Offset, aH, vi r0.Hist.Neg.Offset, aI, vi r0.Flags] ∧ Ext w w' ∧ Sl rep_api_Pair w' (fun k => w.heap.size ≤ k) aQ r0.Attrs ∧ Sl Rep.u w' (fun k => w.heap.size ≤ k) aH r0.Hist.Pos.Counts ∧ Sl Rep.u w' (fun k => w.heap.size ≤ k) aI r0.Hist.Neg.Counts) := by
 unfold tocum_answer at h
 refine Rets.enter Try.func47 z z ?_
 have aR : Sl Rep.u w (imm (Lg.O0 A)) v0_9 a0.Hist.Pos.Counts := (Sl.start hs0_9)
 have aS : Sl Rep.u w (imm (Lg.O0 A)) v0_11 a0.Hist.Neg.Counts := (Sl.start hs0_11)
 have fx : Sl rep_api_Pair w (imm (Lg.O0 A)) v1_1 a1.Attrs := (Sl.start hs1_1)
 have fy : Sl Rep.u w (imm (Lg.O0 A)) v1_13 a1.Hist.Pos.Counts := (Sl.start hs1_13)
 have fz : Sl Rep.u w (imm (Lg.O0 A)) v1_15 a1.Hist.Neg.Counts := (Sl.start hs1_15)
 refine (show WC _ _ _ _ [(0, ag [vB a0.Some, vi a0.Start, vi a0.Time, vi a0.Int_, vu a0.Re, vu a0.Im, vi a0.Hist.Scale, vu a0.Hist.Zero, vi a0.Hist.Pos.Offset, v0_9, vi a0.Hist.Neg.Offset, v0_11]), (1, ag [vs a1.Name, v1_1, vi a1.Kind, vi a1.Temp, vB a1.Mono, vi a1.Start, vi a1.Time, vi a1.Int_, vu a1.Re, vu a1.Im, vi a1.Hist.Scale, vu a1.Hist.Zero, vi a1.Hist.Pos.Offset, v1_13, vi a1.Hist.Neg.Offset, v1_15, vi a1.Flags]), (2, vi a2)] _ from ?_)
 refine sq (rg ?_)
 have fA := h
 obtain ⟨aT, aU, aW, rfl⟩ := aR.shape
 have h := fA
 have fB := h
 obtain ⟨aX, aY, aZ, rfl⟩ := aS.shape
 have h := fB
 refine WL.box (O := (Lg.O0 A)) 11 [vB a0.Some, vi a0.Start, vi a0.Time, vi a0.Int_, vu a0.Re, vu a0.Im, vi a0.Hist.Scale, vu a0.Hist.Zero, vi a0.Hist.Pos.Offset, (Value.slice aT aU aW), vi a0.Hist.Neg.Offset, (Value.slice aX aY aZ)] z z z ?_
 intro gW f8 gH Q af
 have a3 := fx.i Q z z
 have fC := h
 obtain ⟨a4, a5, a6, rfl⟩ := a3.shape
 have h := fC
 have a7 := fy.i Q z z
 have fD := h
 obtain ⟨a8, a9, ba, rfl⟩ := a7.shape
 have h := fD
 have bb := fz.i Q z z
 have fF := h
 obtain ⟨bc, bd, bf, rfl⟩ := bb.shape
 have h := fF
 refine WL.box (O := f8) 12 [vs a1.Name, (Value.slice a4 a5 a6), vi a1.Kind, vi a1.Temp, vB a1.Mono, vi a1.Start, vi a1.Time, vi a1.Int_, vu a1.Re, vu a1.Im, vi a1.Hist.Scale, vu a1.Hist.Zero, vi a1.Hist.Pos.Offset, (Value.slice a8 a9 ba), vi a1.Hist.Neg.Offset, (Value.slice bc bd bf), vi a1.Flags] z z z ?_
 intro gX f9 gI P fG
 refine WL.alloc (O := f9) 13 [vs [], Value.slice none 0 0, vi 0, vi 0, vB false, vi 0, vi 0, vi 0, vu 0, vu 0, vi 0, vu 0, vi 0, Value.slice none 0 0, vi 0, Value.slice none 0 0, vi 0] ty37 z z ?_
 intro gY ga gJ M ax
 refine nl (th (sq (rg ?_)))
 have bg := fG.st M z
 refine wY (yL ty37 z z (bg.cells 0 [vs a1.Name, (Value.slice a4 a5 a6), vi a1.Kind, vi a1.Temp, vB a1.Mono, vi a1.Start, vi a1.Time, vi a1.Int_, vu a1.Re, vu a1.Im, vi a1.Hist.Scale, vu a1.Hist.Zero, vi a1.Hist.Pos.Offset, (Value.slice a8 a9 ba), vi a1.Hist.Neg.Offset, (Value.slice bc bd bf), vi a1.Flags] z) z) z ?_
 have fH := a3.i P z z
 have fI := fH.i M z z
 have fJ := a7.i P z z
 have fK := fJ.i M z z
 have fL := bb.i P z z
 have fN := fL.i M z z
 obtain ⟨d, fO, h⟩ := bnd h
 refine WL.call (vals := [ag [vs a1.Name, (Value.slice a4 a5 a6), vi a1.Kind, vi a1.Temp, vB a1.Mono, vi a1.Start, vi a1.Time, vi a1.Int_, vu a1.Re, vu a1.Im, vi a1.Hist.Scale, vu a1.Hist.Zero, vi a1.Hist.Pos.Offset, (Value.slice a8 a9 ba), vi a1.Hist.Neg.Offset, (Value.slice bc bd bf), vi a1.Flags]]) kok64 z z (c_point_Clone (A := fun _ => True) (a0 := a1) (Sl.all fI) (Sl.all fK) (Sl.all fN) fO) ?_
 rintro gK aF ⟨gb, gc, gd, rfl, fP, ge, gf, gg⟩
 obtain ⟨aJ, gh, ap, L⟩ := adoptE ga (fun k => 1) fP
 have fQ : Sl rep_api_Pair aF (frs aJ) gb d.Attrs := Sl.adoptF ge (fun k hk => ⟨hk, z⟩) ap
 have fR : Sl Rep.u aF (frs aJ) gc d.Hist.Pos.Counts := Sl.adoptF gf (fun k hk => ⟨hk, z⟩) ap
 have fT : Sl Rep.u aF (frs aJ) gd d.Hist.Neg.Counts := Sl.adoptF gg (fun k hk => ⟨hk, z⟩) ap
 refine WL.alloc (O := aJ) 14 [vs [], Value.slice none 0 0, vi 0, vi 0, vB false, vi 0, vi 0, vi 0, vu 0, vu 0, vi 0, vu 0, vi 0, Value.slice none 0 0, vi 0, Value.slice none 0 0, vi 0] ty37 z z ?_
 intro gZ av gL H fU
 have aq := fQ.f H z
 have fV := h
 obtain ⟨I, J, K, rfl⟩ := aq.shape
 have h := fV
 have fY := fR.f H z
 have f0 := h
 obtain ⟨ah, ai, aj, rfl⟩ := fY.shape
 have h := f0
 have f1 := fT.f H z
 have f2 := h
 obtain ⟨ak, al, am, rfl⟩ := f1.shape
 have h := f2
 refine WL.store (v := ag [vs d.Name, (Value.slice I J K), vi d.Kind, vi d.Temp, vB d.Mono, vi d.Start, vi d.Time, vi d.Int_, vu d.Re, vu d.Im, vi d.Hist.Scale, vu d.Hist.Zero, vi d.Hist.Pos.Offset, (Value.slice ah ai aj), vi d.Hist.Neg.Offset, (Value.slice ak al am), vi d.Flags]) (cells' := [vs d.Name, (Value.slice I J K), vi d.Kind, vi d.Temp, vB d.Mono, vi d.Start, vi d.Time, vi d.Int_, vu d.Re, vu d.Im, vi d.Hist.Scale, vu d.Hist.Zero, vi d.Hist.Pos.Offset, (Value.slice ah ai aj), vi d.Hist.Neg.Offset, (Value.slice ak al am), vi d.Flags]) ty37 z z fU z (le_ z) z z ?_
 intro gM l bk
 refine nl (th (sq (WC.drawH [14] [0, 1, 2, 3, 4, 5, 6, 7] av 9 fmix z (by kernel_rfl) ?_)))
 intro gi j
 refine WD.y 0 z (by kernel_rfl) (fun _ _ _ => yf fo32_1 z) z (WD.y 1 z (by kernel_rfl) (fun gj gO bh => have bl := af.st P z; have bm := bl.st M z; have bn := bm.st L z; have bo := bn.st H z; have bp := bo.st l z; have bq := bp.st j z; have br := bq.st bh z; yl ty3 z z (br.cell 1 _ z)) z (WD.y 2 z (by kernel_rfl) (fun _ _ _ => ym z) z (WD.y 3 z (by kernel_rfl) (fun _ _ _ => yf fo37_3 z) z (WD.heavy 4 z (by kernel_rfl) ?_))))
 have bs := bk.st j z
 refine WL.store (v := vi 1) (cells' := [vs d.Name, (Value.slice I J K), vi d.Kind, vi 1, vB d.Mono, vi d.Start, vi d.Time, vi d.Int_, vu d.Re, vu d.Im, vi d.Hist.Scale, vu d.Hist.Zero, vi d.Hist.Pos.Offset, (Value.slice ah ai aj), vi d.Hist.Neg.Offset, (Value.slice ak al am), vi d.Flags]) ty3 z z bs z (le_ z) z z ?_
 intro gk m bt
 refine nl (At.dq (su_ m z) (WD.y 5 z (by kernel_rfl) (fun _ _ _ => yf fo37_5 z) z (WD.heavy 6 z (by kernel_rfl) (WL.store (v := vi a0.Start) (cells' := [vs d.Name, (Value.slice I J K), vi d.Kind, vi 1, vB d.Mono, vi a0.Start, vi d.Time, vi d.Int_, vu d.Re, vu d.Im, vi d.Hist.Scale, vu d.Hist.Zero, vi d.Hist.Pos.Offset, (Value.slice ah ai aj), vi d.Hist.Neg.Offset, (Value.slice ak al am), vi d.Flags]) ty3 z z bt z (le_ z) z z ?_))))
 intro gl o bu
 refine nl (At.dq (su_ o z) (WD.y 7 z (by kernel_rfl) (fun _ _ _ => yf fo37_11 z) z (WD.phase [14] [0, 1, 2, 3, 4, 5, 6, 7, 8] (by kernel_rfl) (by kernel_rfl) (WD.heavy 8 z (by kernel_rfl) (WL.store (v := vi a2) (cells' := [vs d.Name, (Value.slice I J K), vi d.Kind, vi 1, vB d.Mono, vi a0.Start, vi d.Time, vi d.Int_, vu d.Re, vu d.Im, vi d.Hist.Scale, vu d.Hist.Zero, vi d.Hist.Pos.Offset, (Value.slice ah ai aj), vi d.Hist.Neg.Offset, (Value.slice ak al am), vi a2]) ty3 z z bu z (le_ z) z z ?_)))))
 intro gm t bw
 refine nl (At.dq (su_ t z) (WD.done_ (by kernel_rfl) (th (sq (rg (wY (yb (vals := []) (cells := [vi 0, vu 0, vi 0, Value.slice none 0 0, vi 0, Value.slice none 0 0]) (fe_ z) (by kernel_rfl)) z (wY (yf fo37_7 z) z (WL.store (v := vi 0) (cells' := [vs d.Name, (Value.slice I J K), vi d.Kind, vi 1, vB d.Mono, vi a0.Start, vi d.Time, vi 0, vu d.Re, vu d.Im, vi d.Hist.Scale, vu d.Hist.Zero, vi d.Hist.Pos.Offset, (Value.slice ah ai aj), vi d.Hist.Neg.Offset, (Value.slice ak al am), vi a2]) ty3 z z bw z (le_ z) z z ?_))))))))
 intro gn C bx
 refine wY (yf fo37_8 z) z (WL.store (v := vu 0) (cells' := [vs d.Name, (Value.slice I J K), vi d.Kind, vi 1, vB d.Mono, vi a0.Start, vi d.Time, vi 0, vu 0, vu d.Im, vi d.Hist.Scale, vu d.Hist.Zero, vi d.Hist.Pos.Offset, (Value.slice ah ai aj), vi d.Hist.Neg.Offset, (Value.slice ak al am), vi a2]) ty25 z z bx z (le_ z) z z ?_)
 intro gp D bz
 refine wY (yf fo37_9 z) z (WL.store (v := vu 0) (cells' := [vs d.Name, (Value.slice I J K), vi d.Kind, vi 1, vB d.Mono, vi a0.Start, vi d.Time, vi 0, vu 0, vu 0, vi d.Hist.Scale, vu d.Hist.Zero, vi d.Hist.Pos.Offset, (Value.slice ah ai aj), vi d.Hist.Neg.Offset, (Value.slice ak al am), vi a2]) ty25 z z bz z (le_ z) z z ?_)
 intro gq E bA
 refine wY (yf fo37_10 z) z (WL.store (v := ag [vi 0, vu 0, vi 0, Value.slice none 0 0, vi 0, Value.slice none 0 0]) (cells' := [vs d.Name, (Value.slice I J K), vi d.Kind, vi 1, vB d.Mono, vi a0.Start, vi d.Time, vi 0, vu 0, vu 0, vi 0, vu 0, vi 0, Value.slice none 0 0, vi 0, Value.slice none 0 0, vi a2]) ty30 z z bA z (le_ z) z z ?_)
 intro gr F an
 refine nl (th (sq (sq (rg (wY (yf fo37_2 z) z ?_)))))
 have bB := bg.st L z
 have bC := bB.st H z
 have bD := bC.st l z
 have bE := bD.st j z
 have bF := bE.st m z
 have bG := bF.st o z
 have bH := bG.st t z
 have bI := bH.st C z
 have bJ := bI.st D z
 have bK := bJ.st E z
 have bL := bK.st F z
 refine wY (yl ty3 z z (bL.cell 2 _ z)) z (nl (th (WC.block (sq (rg (wY (Y.eql_i z z) z ?_))))))
 obtain ⟨gP, bM, h⟩ := lt1 h
 refine WL.yE (ya z) (congrArg vB bM.symm) z (nl (th ?_))
 rcases cnd h with ⟨ay, h⟩ | ⟨ay, h⟩
 ·refine WC.condT' z ay (rg (wY (yf fo32_3 z) z ?_))
  have bO := af.st P z
  have bP := bO.st M z
  have bQ := bP.st L z
  have bR := bQ.st H z
  have bS := bR.st l z
  have bT := bS.st j z
  have bU := bT.st m z
  have bW := bU.st o z
  have bX := bW.st t z
  have bY := bX.st C z
  have bZ := bY.st D z
  have b0 := bZ.st E z
  have b1 := b0.st F z
  refine wY (yl ty3 z z (b1.cell 3 _ z)) z (wY (yf fo37_7 z) z (WL.store (v := vi a0.Int_) (cells' := [vs d.Name, (Value.slice I J K), vi d.Kind, vi 1, vB d.Mono, vi a0.Start, vi d.Time, vi a0.Int_, vu 0, vu 0, vi 0, vu 0, vi 0, Value.slice none 0 0, vi 0, Value.slice none 0 0, vi a2]) ty3 z z an z (le_ z) z z ?_))
  intro gs ar b2
  refine nl (At.inBlock (th (sq (rg (wY (yL ty37 z z (b2.cells 0 [vs d.Name, (Value.slice I J K), vi d.Kind, vi 1, vB d.Mono, vi a0.Start, vi d.Time, vi a0.Int_, vu 0, vu 0, vi 0, vu 0, vi 0, Value.slice none 0 0, vi 0, Value.slice none 0 0, vi a2] z) z) z ?_)))))
  have b3 := ax.st L z
  have b4 := b3.st H z
  have b5 := b4.st l z
  have b6 := b5.st j z
  have b7 := b6.st m z
  have b8 := b7.st o z
  have b9 := b8.st t z
  have ca := b9.st C z
  have cb := ca.st D z
  have cc := cb.st E z
  have cd := cc.st F z
  have ce := cd.st ar z
  refine WL.store (v := ag [vs d.Name, (Value.slice I J K), vi d.Kind, vi 1, vB d.Mono, vi a0.Start, vi d.Time, vi a0.Int_, vu 0, vu 0, vi 0, vu 0, vi 0, Value.slice none 0 0, vi 0, Value.slice none 0 0, vi a2]) (cells' := [vs d.Name, (Value.slice I J K), vi d.Kind, vi 1, vB d.Mono, vi a0.Start, vi d.Time, vi a0.Int_, vu 0, vu 0, vi 0, vu 0, vi 0, Value.slice none 0 0, vi 0, Value.slice none 0 0, vi a2]) ty37 z z ce z (le_ z) z z ?_
  intro cf aC cg
  refine nl (th (rt ?_))
  obtain rfl := some1 h
  have aK : Stp [13, 14] (Lg.O0 A) w av cf := (tr_ (su_ Q z) (tr_ (su_ P z) (tr_ (su_ M z) (tr_ (su_ L z) (tr_ (su_ H z) (tr_ (su_ l z) (tr_ (su_ j z) (tr_ (su_ m z) (tr_ (su_ o z) (tr_ (su_ t z) (tr_ (su_ C z) (tr_ (su_ D z) (tr_ (su_ E z) (tr_ (su_ F z) (tr_ (su_ ar z) (su_ aC z))))))))))))))))
  have ch := aq.f l z
  have ci := ch.f j z
  have cj := ci.f m z
  have ck := cj.f o z
  have cl := ck.f t z
  have cm := cl.f C z
  have cn := cm.f D z
  have co := cn.f E z
  have cp := co.f F z
  have cq := cp.f ar z
  have cr := cq.f aC z
  exact At.res (.inl z) z (.cell z (cg.runAg 0 [vs d.Name, (Value.slice I J K), vi d.Kind, vi 1, vB d.Mono, vi a0.Start, vi d.Time, vi a0.Int_, vu 0, vu 0, vi 0, vu 0, vi 0, Value.slice none 0 0, vi 0, Value.slice none 0 0, vi a2] ty37 z z z) .nil) ⟨(Value.slice I J K), Value.slice none 0 0, Value.slice none 0 0, z, (se_ aK z z), (Sl.outF cr aK low0), (Or.inl ⟨z, z⟩), (Or.inl ⟨z, z⟩)⟩
 ·refine WC.condF' z ay (sq (rg (wY (Y.eql_i z z) z ?_)))
  obtain ⟨gQ, cs, h⟩ := lt1 h
  refine WL.yE (ya z) (congrArg vB cs.symm) z (nl (th ?_))
  rcases cnd h with ⟨az, h⟩ | ⟨az, h⟩
  ·refine WC.condT' z az (rg (wY (yf fo32_4 z) z ?_))
   have ct := af.st P z
   have cu := ct.st M z
   have cv := cu.st L z
   have cw := cv.st H z
   have cx := cw.st l z
   have cy := cx.st j z
   have cz := cy.st m z
   have cA := cz.st o z
   have cC := cA.st t z
   have cD := cC.st C z
   have cE := cD.st D z
   have cF := cE.st E z
   have cG := cF.st F z
   refine wY (yl ty25 z z (cG.cell 4 _ z)) z (wY (yf fo37_8 z) z (WL.store (v := vu a0.Re) (cells' := [vs d.Name, (Value.slice I J K), vi d.Kind, vi 1, vB d.Mono, vi a0.Start, vi d.Time, vi 0, vu a0.Re, vu 0, vi 0, vu 0, vi 0, Value.slice none 0 0, vi 0, Value.slice none 0 0, vi a2]) ty25 z z an z (le_ z) z z ?_))
   intro gt au cH
   refine nl (At.inBlock (th (sq (rg (wY (yL ty37 z z (cH.cells 0 [vs d.Name, (Value.slice I J K), vi d.Kind, vi 1, vB d.Mono, vi a0.Start, vi d.Time, vi 0, vu a0.Re, vu 0, vi 0, vu 0, vi 0, Value.slice none 0 0, vi 0, Value.slice none 0 0, vi a2] z) z) z ?_)))))
   have cI := ax.st L z
   have cJ := cI.st H z
   have cK := cJ.st l z
   have cL := cK.st j z
   have cM := cL.st m z
   have cN := cM.st o z
   have cO := cN.st t z
   have cP := cO.st C z
   have cQ := cP.st D z
   have cR := cQ.st E z
   have cS := cR.st F z
   have cT := cS.st au z
   refine WL.store (v := ag [vs d.Name, (Value.slice I J K), vi d.Kind, vi 1, vB d.Mono, vi a0.Start, vi d.Time, vi 0, vu a0.Re, vu 0, vi 0, vu 0, vi 0, Value.slice none 0 0, vi 0, Value.slice none 0 0, vi a2]) (cells' := [vs d.Name, (Value.slice I J K), vi d.Kind, vi 1, vB d.Mono, vi a0.Start, vi d.Time, vi 0, vu a0.Re, vu 0, vi 0, vu 0, vi 0, Value.slice none 0 0, vi 0, Value.slice none 0 0, vi a2]) ty37 z z cT z (le_ z) z z ?_
   intro cU aD cV
   refine nl (th (rt ?_))
   obtain rfl := some1 h
   have aL : Stp [13, 14] (Lg.O0 A) w av cU := (tr_ (su_ Q z) (tr_ (su_ P z) (tr_ (su_ M z) (tr_ (su_ L z) (tr_ (su_ H z) (tr_ (su_ l z) (tr_ (su_ j z) (tr_ (su_ m z) (tr_ (su_ o z) (tr_ (su_ t z) (tr_ (su_ C z) (tr_ (su_ D z) (tr_ (su_ E z) (tr_ (su_ F z) (tr_ (su_ au z) (su_ aD z))))))))))))))))
   have cW := aq.f l z
   have cX := cW.f j z
   have cY := cX.f m z
   have cZ := cY.f o z
   have c0 := cZ.f t z
   have c1 := c0.f C z
   have c2 := c1.f D z
   have c3 := c2.f E z
   have c4 := c3.f F z
   have c5 := c4.f au z
   have c6 := c5.f aD z
   exact At.res (.inl z) z (.cell z (cV.runAg 0 [vs d.Name, (Value.slice I J K), vi d.Kind, vi 1, vB d.Mono, vi a0.Start, vi d.Time, vi 0, vu a0.Re, vu 0, vi 0, vu 0, vi 0, Value.slice none 0 0, vi 0, Value.slice none 0 0, vi a2] ty37 z z z) .nil) ⟨(Value.slice I J K), Value.slice none 0 0, Value.slice none 0 0, z, (se_ aL z z), (Sl.outF c6 aL low0), (Or.inl ⟨z, z⟩), (Or.inl ⟨z, z⟩)⟩
  ·refine WC.condF' z az (sq (rg (wY (Y.eql_i z z) z ?_)))
   obtain ⟨gR, c7, h⟩ := lt1 h
   refine WL.yE (ya z) (congrArg vB c7.symm) z (nl (th ?_))
   rcases cnd h with ⟨aA, h⟩ | ⟨aA, h⟩
   ·refine WC.condT' z aA (WC.drawH [14] [0, 1, 2, 3, 4, 5, 6] av 8 fmix z (by kernel_rfl) ?_)
    intro gu S
    refine WD.y 0 z (by kernel_rfl) (fun _ _ _ => yf fo32_4 z) z (WD.y 1 z (by kernel_rfl) (fun gw gU bi => have c8 := af.st P z; have c9 := c8.st M z; have da := c9.st L z; have db := da.st H z; have dc := db.st l z; have dd := dc.st j z; have de := dd.st m z; have df := de.st o z; have dg := df.st t z; have dh := dg.st C z; have di := dh.st D z; have dj := di.st E z; have dk := dj.st F z; have dl := dk.st S z; have dm := dl.st bi z; yl ty25 z z (dm.cell 4 _ z)) z (WD.y 2 z (by kernel_rfl) (fun _ _ _ => yf fo32_5 z) z (WD.y 3 z (by kernel_rfl) (fun gz gV bj => have dn := af.st P z; have dp := dn.st M z; have dr := dp.st L z; have ds := dr.st H z; have dt := ds.st l z; have du := dt.st j z; have dw := du.st m z; have dx := dw.st o z; have dy := dx.st t z; have dz := dy.st C z; have dA := dz.st D z; have dB := dA.st E z; have dC := dB.st F z; have dD := dC.st S z; have dE := dD.st bj z; yl ty25 z z (dE.cell 5 _ z)) z (WD.y 4 z (by kernel_rfl) (fun _ _ _ => yf fo37_8 z) z (WD.heavy 5 z (by kernel_rfl) ?_)))))
    have dF := an.st S z
    refine WL.store (v := vu a0.Re) (cells' := [vs d.Name, (Value.slice I J K), vi d.Kind, vi 1, vB d.Mono, vi a0.Start, vi d.Time, vi 0, vu a0.Re, vu 0, vi 0, vu 0, vi 0, Value.slice none 0 0, vi 0, Value.slice none 0 0, vi a2]) ty25 z z dF z (le_ z) z z ?_
    intro gB ab dG
    refine nl (At.dq (su_ ab z) (WD.y 6 z (by kernel_rfl) (fun _ _ _ => yf fo37_9 z) z (WD.phase [14] [0, 1, 2, 3, 4, 5, 6, 7] (by kernel_rfl) (by kernel_rfl) (WD.heavy 7 z (by kernel_rfl) (WL.store (v := vu a0.Im) (cells' := [vs d.Name, (Value.slice I J K), vi d.Kind, vi 1, vB d.Mono, vi a0.Start, vi d.Time, vi 0, vu a0.Re, vu a0.Im, vi 0, vu 0, vi 0, Value.slice none 0 0, vi 0, Value.slice none 0 0, vi a2]) ty25 z z dG z (le_ z) z z ?_)))))
    intro gC ac dH
    refine nl (At.dq (su_ ac z) (WD.done_ (by kernel_rfl) (At.inBlock (th (sq (rg (wY (yL ty37 z z (dH.cells 0 [vs d.Name, (Value.slice I J K), vi d.Kind, vi 1, vB d.Mono, vi a0.Start, vi d.Time, vi 0, vu a0.Re, vu a0.Im, vi 0, vu 0, vi 0, Value.slice none 0 0, vi 0, Value.slice none 0 0, vi a2] z) z) z ?_)))))))
    have dI := ax.st L z
    have dJ := dI.st H z
    have dK := dJ.st l z
    have dL := dK.st j z
    have dM := dL.st m z
    have dN := dM.st o z
    have dO := dN.st t z
    have dP := dO.st C z
    have dQ := dP.st D z
    have dR := dQ.st E z
    have dS := dR.st F z
    have dT := dS.st S z
    have dU := dT.st ab z
    have dV := dU.st ac z
    refine WL.store (v := ag [vs d.Name, (Value.slice I J K), vi d.Kind, vi 1, vB d.Mono, vi a0.Start, vi d.Time, vi 0, vu a0.Re, vu a0.Im, vi 0, vu 0, vi 0, Value.slice none 0 0, vi 0, Value.slice none 0 0, vi a2]) (cells' := [vs d.Name, (Value.slice I J K), vi d.Kind, vi 1, vB d.Mono, vi a0.Start, vi d.Time, vi 0, vu a0.Re, vu a0.Im, vi 0, vu 0, vi 0, Value.slice none 0 0, vi 0, Value.slice none 0 0, vi a2]) ty37 z z dV z (le_ z) z z ?_
    intro dW aE dX
    refine nl (th (rt ?_))
    obtain rfl := some1 h
    have aM : Stp [13, 14] (Lg.O0 A) w av dW := (tr_ (su_ Q z) (tr_ (su_ P z) (tr_ (su_ M z) (tr_ (su_ L z) (tr_ (su_ H z) (tr_ (su_ l z) (tr_ (su_ j z) (tr_ (su_ m z) (tr_ (su_ o z) (tr_ (su_ t z) (tr_ (su_ C z) (tr_ (su_ D z) (tr_ (su_ E z) (tr_ (su_ F z) (tr_ (su_ S z) (tr_ (su_ ab z) (tr_ (su_ ac z) (su_ aE z))))))))))))))))))
    have dY := aq.f l z
    have dZ := dY.f j z
    have d0 := dZ.f m z
    have d1 := d0.f o z
    have d2 := d1.f t z
    have d3 := d2.f C z
    have d4 := d3.f D z
    have d5 := d4.f E z
    have d6 := d5.f F z
    have d7 := d6.f S z
    have d8 := d7.f ab z
    have d9 := d8.f ac z
    have ea := d9.f aE z
    exact At.res (.inl z) z (.cell z (dX.runAg 0 [vs d.Name, (Value.slice I J K), vi d.Kind, vi 1, vB d.Mono, vi a0.Start, vi d.Time, vi 0, vu a0.Re, vu a0.Im, vi 0, vu 0, vi 0, Value.slice none 0 0, vi 0, Value.slice none 0 0, vi a2] ty37 z z z) .nil) ⟨(Value.slice I J K), Value.slice none 0 0, Value.slice none 0 0, z, (se_ aM z z), (Sl.outF ea aM low0), (Or.inl ⟨z, z⟩), (Or.inl ⟨z, z⟩)⟩
   ·refine WC.condF' z aA (rg (wY (yf fo32_6 z) z ?_))
    have eb := af.st P z
    have ec := eb.st M z
    have ed := ec.st L z
    have ee := ed.st H z
    have ef := ee.st l z
    have eg := ef.st j z
    have eh := eg.st m z
    have ei := eh.st o z
    have ej := ei.st t z
    have ek := ej.st C z
    have em := ek.st D z
    have en := em.st E z
    have eo := en.st F z
    refine wY (yL ty30 z z (eo.cells 6 [vi a0.Hist.Scale, vu a0.Hist.Zero, vi a0.Hist.Pos.Offset, (Value.slice aT aU aW), vi a0.Hist.Neg.Offset, (Value.slice aX aY aZ)] z) z) z ?_
    have ep := aR.i Q z z
    have es := ep.i P z z
    have et := es.i M z z
    have eu := et.i L z z
    have ew := eu.i H z z
    have ex := ew.i l z z
    have ey := ex.i j z z
    have ez := ey.i m z z
    have eA := ez.i o z z
    have eB := eA.i t z z
    have eC := eB.i C z z
    have eD := eC.i D z z
    have eE := eD.i E z z
    have eF := eE.i F z z
    have eG := aS.i Q z z
    have eH := eG.i P z z
    have eI := eH.i M z z
    have eJ := eI.i L z z
    have eK := eJ.i H z z
    have eL := eK.i l z z
    have eM := eL.i j z z
    have eN := eM.i m z z
    have eO := eN.i o z z
    have eP := eO.i t z z
    have eQ := eP.i C z z
    have eR := eQ.i D z z
    have eS := eR.i E z z
    have eT := eS.i F z z
    obtain ⟨G, eU, h⟩ := bnd h
    refine WL.call (vals := [ag [vi a0.Hist.Scale, vu a0.Hist.Zero, vi a0.Hist.Pos.Offset, (Value.slice aT aU aW), vi a0.Hist.Neg.Offset, (Value.slice aX aY aZ)]]) kok46 z z (c_hist_Clone (A := fun _ => True) (a0 := a0.Hist) (Sl.all eF) (Sl.all eT) eU) ?_
    rintro gE aN ⟨f3, f4, rfl, eV, f5, f6⟩
    obtain ⟨aG, f7, aw, ad⟩ := adoptE av (fun k => 1) eV
    have aO : Sl Rep.u aN (frs aG) f3 G.Pos.Counts := Sl.adoptF f5 (fun k hk => ⟨hk, z⟩) aw
    have aP : Sl Rep.u aN (frs aG) f4 G.Neg.Counts := Sl.adoptF f6 (fun k hk => ⟨hk, z⟩) aw
    refine wY (yf fo37_10 z) z ?_
    have eW := h
    obtain ⟨U, V, W, rfl⟩ := aO.shape
    have h := eW
    have eX := h
    obtain ⟨X, Z, aa, rfl⟩ := aP.shape
    have h := eX
    have eY := an.st ad z
    refine WL.store (v := ag [vi G.Scale, vu G.Zero, vi G.Pos.Offset, (Value.slice U V W), vi G.Neg.Offset, (Value.slice X Z aa)]) (cells' := [vs d.Name, (Value.slice I J K), vi d.Kind, vi 1, vB d.Mono, vi a0.Start, vi d.Time, vi 0, vu 0, vu 0, vi G.Scale, vu G.Zero, vi G.Pos.Offset, (Value.slice U V W), vi G.Neg.Offset, (Value.slice X Z aa), vi a2]) ty30 z z eY z (le_ z) z z ?_
    intro gG T eZ
    refine nl (At.inBlock (th (sq (rg (wY (yL ty37 z z (eZ.cells 0 [vs d.Name, (Value.slice I J K), vi d.Kind, vi 1, vB d.Mono, vi a0.Start, vi d.Time, vi 0, vu 0, vu 0, vi G.Scale, vu G.Zero, vi G.Pos.Offset, (Value.slice U V W), vi G.Neg.Offset, (Value.slice X Z aa), vi a2] z) z) z ?_)))))
    have e0 := ax.st L z
    have e1 := e0.st H z
    have e2 := e1.st l z
    have e5 := e2.st j z
    have e6 := e5.st m z
    have e7 := e6.st o z
    have e8 := e7.st t z
    have e9 := e8.st C z
    have fa := e9.st D z
    have fb := fa.st E z
    have fc := fb.st F z
    have fd := fc.st ad z
    have fe := fd.st T z
    refine WL.store (v := ag [vs d.Name, (Value.slice I J K), vi d.Kind, vi 1, vB d.Mono, vi a0.Start, vi d.Time, vi 0, vu 0, vu 0, vi G.Scale, vu G.Zero, vi G.Pos.Offset, (Value.slice U V W), vi G.Neg.Offset, (Value.slice X Z aa), vi a2]) (cells' := [vs d.Name, (Value.slice I J K), vi d.Kind, vi 1, vB d.Mono, vi a0.Start, vi d.Time, vi 0, vu 0, vu 0, vi G.Scale, vu G.Zero, vi G.Pos.Offset, (Value.slice U V W), vi G.Neg.Offset, (Value.slice X Z aa), vi a2]) ty37 z z fe z (le_ z) z z ?_
    intro ff ae fg
    refine nl (th (rt ?_))
    obtain rfl := some1 h
    have ao : Stp [13, 14] (Lg.O0 A) w aG ff := (tr_ (su_ Q z) (tr_ (su_ P z) (tr_ (su_ M z) (tr_ (su_ L z) (tr_ (su_ H z) (tr_ (su_ l z) (tr_ (su_ j z) (tr_ (su_ m z) (tr_ (su_ o z) (tr_ (su_ t z) (tr_ (su_ C z) (tr_ (su_ D z) (tr_ (su_ E z) (tr_ (su_ F z) (tr_ (su_ ad z) (tr_ (su_ T z) (su_ ae z)))))))))))))))))
    have fh := aq.f l z
    have fi := fh.f j z
    have fj := fi.f m z
    have fk := fj.f o z
    have fl := fk.f t z
    have fm := fl.f C z
    have fn := fm.f D z
    have fo := fn.f E z
    have fp := fo.f F z
    have fq := fp.f ad z
    have fr := fq.f T z
    have fs := fr.f ae z
    have ft := aO.f T z
    have fu := ft.f ae z
    have fv := aP.f T z
    have fw := fv.f ae z
    exact At.res (.inl z) z (.cell z (fg.runAg 0 [vs d.Name, (Value.slice I J K), vi d.Kind, vi 1, vB d.Mono, vi a0.Start, vi d.Time, vi 0, vu 0, vu 0, vi G.Scale, vu G.Zero, vi G.Pos.Offset, (Value.slice U V W), vi G.Neg.Offset, (Value.slice X Z aa), vi a2] ty37 z z z) .nil) ⟨(Value.slice I J K), (Value.slice U V W), (Value.slice X Z aa), z, (se_ ao z z), (Sl.outF fs ao low0), (Sl.outF fu ao low0), (Sl.outF fw ao low0)⟩
theorem c_tocum_Next {A : Nat → Prop} {v0_9 : Value} {v0_11 : Value} {a0 : api_State} {v1_1 : Value} {v1_13 : Value} {v1_15 : Value} {a1 : api_Point} {a2 : Int} {w : World} (hs0_9 : Sl Rep.u w A v0_9 a0.Hist.Pos.Counts) (hs0_11 : Sl Rep.u w A v0_11 a0.Hist.Neg.Counts) (hs1_1 : Sl rep_api_Pair w A v1_1 a1.Attrs) (hs1_13 : Sl Rep.u w A v1_13 a1.Hist.Pos.Counts) (hs1_15 : Sl Rep.u w A v1_15 a1.Hist.Neg.Counts) {r0 : api_State} {r1 : api_Point} {r2 : Int} (h : tocum_Next a0 a1 a2 = some (r0, r1, r2)) : Rets Try.prog 20 [ag [vB a0.Some, vi a0.Start, vi a0.Time, vi a0.Int_, vu a0.Re, vu a0.Im, vi a0.Hist.Scale, vu a0.Hist.Zero, vi a0.Hist.Pos.Offset, v0_9, vi a0.Hist.Neg.Offset, v0_11], ag [vs a1.Name, v1_1, vi a1.Kind, vi a1.Temp, vB a1.Mono, vi a1.Start, vi a1.Time, vi a1.Int_, vu a1.Re, vu a1.Im, vi a1.Hist.Scale, vu a1.Hist.Zero, vi a1.Hist.Pos.Offset, v1_13, vi a1.Hist.Neg.Offset, v1_15, vi a1.Flags], vi a2] w (fun v w' => ∃ (cF : Value) (cd : Value) (cG : Value) (ce : Value) (cf : Value), v = Value.tuple (List.toArray [ag [vB r0.Some, vi r0.Start, vi r0.Time, vi r0.Int_, vu r0.Re, vu r0.Im, vi r0.Hist.Scale, vu r0.Hist.Zero, vi r0.Hist.Pos.Offset, cF, vi r0.Hist.Neg.Offset, cd], ag [vs r1.Name, cG, vi r1.Kind, vi r1.Temp, vB r1.Mono, vi r1.Start, vi r1.Time, vi r1.Int_, vu r1.Re, vu r1.Im, vi r1.Hist.Scale, vu r1.Hist.Zero, vi r1.Hist.Pos.Offset, ce, vi r1.Hist.Neg.Offset, cf, vi r1.Flags], vi r2]) ∧ Ext w w' ∧ Sl Rep.u w' (fun k => w.heap.size ≤ k) cF r0.Hist.Pos.Counts ∧ Sl Rep.u w' (fun k => w.heap.size ≤ k) cd r0.Hist.Neg.Counts ∧ Sl rep_api_Pair w' (fun k => w.heap.size ≤ k) cG r1.Attrs ∧ Sl Rep.u w' (fun k => w.heap.size ≤ k) ce r1.Hist.Pos.Counts ∧ Sl Rep.u w' (fun k => w.heap.size ≤ k) cf r1.Hist.Neg.Counts) := by
 unfold tocum_Next at h
 refine Rets.enter Try.func20 z z ?_
 have a9 : Sl Rep.u w (imm (Lg.O0 A)) v0_9 a0.Hist.Pos.Counts := (Sl.start hs0_9)
 have ba : Sl Rep.u w (imm (Lg.O0 A)) v0_11 a0.Hist.Neg.Counts := (Sl.start hs0_11)
 have i9 : Sl rep_api_Pair w (imm (Lg.O0 A)) v1_1 a1.Attrs := (Sl.start hs1_1)
 have ja : Sl Rep.u w (imm (Lg.O0 A)) v1_13 a1.Hist.Pos.Counts := (Sl.start hs1_13)
 have jb : Sl Rep.u w (imm (Lg.O0 A)) v1_15 a1.Hist.Neg.Counts := (Sl.start hs1_15)
 refine (show WC _ _ _ _ [(0, ag [vB a0.Some, vi a0.Start, vi a0.Time, vi a0.Int_, vu a0.Re, vu a0.Im, vi a0.Hist.Scale, vu a0.Hist.Zero, vi a0.Hist.Pos.Offset, v0_9, vi a0.Hist.Neg.Offset, v0_11]), (1, ag [vs a1.Name, v1_1, vi a1.Kind, vi a1.Temp, vB a1.Mono, vi a1.Start, vi a1.Time, vi a1.Int_, vu a1.Re, vu a1.Im, vi a1.Hist.Scale, vu a1.Hist.Zero, vi a1.Hist.Pos.Offset, v1_13, vi a1.Hist.Neg.Offset, v1_15, vi a1.Flags]), (2, vi a2)] _ from ?_)
 refine sq (rg ?_)
 have jc := h
 obtain ⟨aX, aY, aZ, rfl⟩ := a9.shape
 have h := jc
 have jd := h
 obtain ⟨a3, a4, a5, rfl⟩ := ba.shape
 have h := jd
 refine WL.box (O := (Lg.O0 A)) 11 [vB a0.Some, vi a0.Start, vi a0.Time, vi a0.Int_, vu a0.Re, vu a0.Im, vi a0.Hist.Scale, vu a0.Hist.Zero, vi a0.Hist.Pos.Offset, (Value.slice aX aY aZ), vi a0.Hist.Neg.Offset, (Value.slice a3 a4 a5)] z z z ?_
 intro cg km kU P cH
 have cI := i9.i P z z
 have je := h
 obtain ⟨an, ao, ap, rfl⟩ := cI.shape
 have h := je
 have cJ := ja.i P z z
 have jf := h
 obtain ⟨aL, aM, aN, rfl⟩ := cJ.shape
 have h := jf
 have cK := jb.i P z z
 have jg := h
 obtain ⟨aO, aP, aQ, rfl⟩ := cK.shape
 have h := jg
 refine WL.box (O := km) 12 [vs a1.Name, (Value.slice an ao ap), vi a1.Kind, vi a1.Temp, vB a1.Mono, vi a1.Start, vi a1.Time, vi a1.Int_, vu a1.Re, vu a1.Im, vi a1.Hist.Scale, vu a1.Hist.Zero, vi a1.Hist.Pos.Offset, (Value.slice aL aM aN), vi a1.Hist.Neg.Offset, (Value.slice aO aP aQ), vi a1.Flags] z z z ?_
 intro aR kn kV L jh
 refine WL.alloc (O := kn) 13 [vB false, vi 0, vi 0, vi 0, vu 0, vu 0, vi 0, vu 0, vi 0, Value.slice none 0 0, vi 0, Value.slice none 0 0] ty32 z z ?_
 intro a6 ko kW K cL
 refine WL.alloc (O := ko) 14 [vs [], Value.slice none 0 0, vi 0, vi 0, vB false, vi 0, vi 0, vi 0, vu 0, vu 0, vi 0, vu 0, vi 0, Value.slice none 0 0, vi 0, Value.slice none 0 0, vi 0] ty37 z z ?_
 intro a7 kp kX J cM
 refine wY (ya z) z (nl (th (sq (rg ?_))))
 have ji := jh.st K z
 have bY := ji.st J z
 refine wY (yL ty37 z z (bY.cells 0 [vs a1.Name, (Value.slice an ao ap), vi a1.Kind, vi a1.Temp, vB a1.Mono, vi a1.Start, vi a1.Time, vi a1.Int_, vu a1.Re, vu a1.Im, vi a1.Hist.Scale, vu a1.Hist.Zero, vi a1.Hist.Pos.Offset, (Value.slice aL aM aN), vi a1.Hist.Neg.Offset, (Value.slice aO aP aQ), vi a1.Flags] z) z) z ?_
 have jj := cI.i L z z
 have jk := jj.i K z z
 have bj := jk.i J z z
 have jl := cJ.i L z z
 have jm := jl.i K z z
 have aS := jm.i J z z
 have jn := cK.i L z z
 have jo := jn.i K z z
 have aT := jo.i J z z
 obtain ⟨i7, jp, h⟩ := bnd h
 refine WL.call (vals := [ag [vs a1.Name, (Value.slice an ao ap), vi a1.Kind, vi a1.Temp, vB a1.Mono, vi a1.Start, vi a1.Time, vi a1.Int_, vu a1.Re, vu a1.Im, vi a1.Hist.Scale, vu a1.Hist.Zero, vi a1.Hist.Pos.Offset, (Value.slice aL aM aN), vi a1.Hist.Neg.Offset, (Value.slice aO aP aQ), vi a1.Flags]]) kok14 z z (c_point_Check (A := fun _ => True) (a0 := a1) (Sl.all bj) (Sl.all aS) (Sl.all aT) jp) ?_
 rintro kY jq ⟨rfl, jr⟩
 obtain ⟨bf, kq, kr, j⟩ := adoptE kp (fun k => 1) jr
 refine wY (ya z) z (nl (th (sq ?_)))
 obtain ⟨ks, h, js⟩ := bnd h
 refine WC.join (σ := (Int × UInt64 × Int × List UInt64 × Int × List UInt64 × Int × Own × Value × Value)) (fun x w' => (x.1, x.2.1, x.2.2.1, x.2.2.2.1, x.2.2.2.2.1, x.2.2.2.2.2.1, x.2.2.2.2.2.2.1) = ks ∧ Stp [12] bf jq x.2.2.2.2.2.2.2.1 w' ∧ Sl Rep.u w' (imm x.2.2.2.2.2.2.2.1) x.2.2.2.2.2.2.2.2.1 x.2.2.2.1 ∧ Sl Rep.u w' (imm x.2.2.2.2.2.2.2.1) x.2.2.2.2.2.2.2.2.2 x.2.2.2.2.2.1 ∧ Blk 12 x.2.2.2.2.2.2.2.1 w' aR 37 [vs a1.Name, (Value.slice an ao ap), vi a1.Kind, vi a1.Temp, vB a1.Mono, vi a1.Start, vi a1.Time, vi a1.Int_, vu a1.Re, vu a1.Im, vi x.1, vu x.2.1, vi x.2.2.1, x.2.2.2.2.2.2.2.2.1, vi x.2.2.2.2.1, x.2.2.2.2.2.2.2.2.2, vi a1.Flags]) (fun x => [(2, vi a2), (3, pt cg 0), (4, pt aR 0), (6, pt a6 0), (7, pt a7 0), (9, vi x.2.2.2.2.2.2.1)]) ?_ ?_
 ·refine WC.block (sq (rg (wY (ym z) z (wY (Y.neq_i z z) z ?_))))
  obtain ⟨lg, jt, h⟩ := lt1 h
  refine WL.yE (ya z) (congrArg vB jt.symm) z (nl (th ?_))
  rcases cnd h with ⟨bZ, h⟩ | ⟨bZ, h⟩
  ·refine WC.condT' z bZ (sk (At.inBlock ?_))
   have ju := aS.i j z z
   have jv := aT.i j z z
   have cZ := bY.st j z
   exact At.join (σ := (Int × UInt64 × Int × List UInt64 × Int × List UInt64 × Int × Own × Value × Value)) (a1.Hist.Scale, a1.Hist.Zero, a1.Hist.Pos.Offset, a1.Hist.Pos.Counts, a1.Hist.Neg.Offset, a1.Hist.Neg.Counts, i7, bf, (Value.slice aL aM aN), (Value.slice aO aP aQ)) ⟨some1 h, (sr_ _ _ _), ju, jv, cZ⟩ (.cons z (.cons z (.cons z (.cons z (.cons z (.cons z .nil))))))
  ·refine WC.condF' z bZ (sq (rg (wY (yf fo37_3 z) z ?_)))
   have ad := bY.st j z
   refine wY (yl ty3 z z (ad.cell 3 _ z)) z (wY (Y.neq_i z z) z ?_)
   obtain ⟨kZ, c0, h⟩ := lt1 h
   refine WL.yE (ya z) (congrArg vB c0.symm) z (nl (th ?_))
   rcases cnd h with ⟨bk, h⟩ | ⟨bk, h⟩
   ·refine WC.condT' z bk (rg (wY (ya z) z (nl (At.inBlock ?_))))
    have c1 := aS.i j z z
    have c2 := aT.i j z z
    exact At.join (σ := (Int × UInt64 × Int × List UInt64 × Int × List UInt64 × Int × Own × Value × Value)) (a1.Hist.Scale, a1.Hist.Zero, a1.Hist.Pos.Offset, a1.Hist.Pos.Counts, a1.Hist.Neg.Offset, a1.Hist.Neg.Counts, 14, bf, (Value.slice aL aM aN), (Value.slice aO aP aQ)) ⟨some1 h, (sr_ _ _ _), c1, c2, ad⟩ (.cons z (.cons z (.cons z (.cons z (.cons z (.cons z .nil))))))
   ·refine WC.condF' z bk (sq (rg (wY (yf fo37_11 z) z (wY (yl ty3 z z (ad.cell 16 _ z)) z (wY (Y.neq_i z z) z ?_)))))
    obtain ⟨k0, c3, h⟩ := lt1 h
    refine WL.yE (ya z) (congrArg vB c3.symm) z (nl (th ?_))
    rcases cnd h with ⟨bl, h⟩ | ⟨bl, h⟩
    ·refine WC.condT' z bl (rg (wY (ya z) z (nl (At.inBlock ?_))))
     have c4 := aS.i j z z
     have c5 := aT.i j z z
     exact At.join (σ := (Int × UInt64 × Int × List UInt64 × Int × List UInt64 × Int × Own × Value × Value)) (a1.Hist.Scale, a1.Hist.Zero, a1.Hist.Pos.Offset, a1.Hist.Pos.Counts, a1.Hist.Neg.Offset, a1.Hist.Neg.Counts, 3, bf, (Value.slice aL aM aN), (Value.slice aO aP aQ)) ⟨some1 h, (sr_ _ _ _), c4, c5, ad⟩ (.cons z (.cons z (.cons z (.cons z (.cons z (.cons z .nil))))))
    ·refine WC.condF' z bl (sq (rg (wY (yf fo37_2 z) z (wY (yl ty3 z z (ad.cell 2 _ z)) z (wY (Y.eql_i z z) z ?_)))))
     obtain ⟨k1, c6, h⟩ := lt1 h
     refine WL.yE (ya z) (congrArg vB c6.symm) z (nl (th ?_))
     rcases cnd h with ⟨bm, h⟩ | ⟨bm, h⟩
     ·refine WC.condT' z bm (rg (wY (yf fo37_10 z) z (wY (yL ty30 z z (ad.cells 10 [vi a1.Hist.Scale, vu a1.Hist.Zero, vi a1.Hist.Pos.Offset, (Value.slice aL aM aN), vi a1.Hist.Neg.Offset, (Value.slice aO aP aQ)] z) z) z (wY (ym z) z ?_))))
      have c7 := aS.i j z z
      have c8 := aT.i j z z
      obtain ⟨⟨Q, jw⟩, c9, h⟩ := bnd h
      refine WL.call (vals := [ag [vi a1.Hist.Scale, vu a1.Hist.Zero, vi a1.Hist.Pos.Offset, (Value.slice aL aM aN), vi a1.Hist.Neg.Offset, (Value.slice aO aP aQ)], vi a2]) kok43 z z (c_hist_Fit (A := fun _ => True) (a0 := a1.Hist) (Sl.all c7) (Sl.all c8) c9) ?_
      rintro kt ch ⟨jx, jy, rfl, da, jz, jA⟩
      obtain ⟨b0, kg, bg, bT⟩ := adoptE bf (fun k => 1) da
      have ci : Sl Rep.u ch (frs b0) jx Q.Pos.Counts := Sl.adoptF jz (fun k hk => ⟨hk, z⟩) bg
      have cj : Sl Rep.u ch (frs b0) jy Q.Neg.Counts := Sl.adoptF jA (fun k hk => ⟨hk, z⟩) bg
      refine wY (ym z) z (wY (yx z z) z (wY (yx z z) z (wY (yf fo37_10 z) z ?_)))
      have db := h
      obtain ⟨b1, b2, b3, rfl⟩ := ci.shape
      have h := db
      have dc := h
      obtain ⟨b4, b5, b6, rfl⟩ := cj.shape
      have h := dc
      have dd := ad.st bT z
      refine WL.store (v := ag [vi Q.Scale, vu Q.Zero, vi Q.Pos.Offset, (Value.slice b1 b2 b3), vi Q.Neg.Offset, (Value.slice b4 b5 b6)]) (cells' := [vs a1.Name, (Value.slice an ao ap), vi a1.Kind, vi a1.Temp, vB a1.Mono, vi a1.Start, vi a1.Time, vi a1.Int_, vu a1.Re, vu a1.Im, vi Q.Scale, vu Q.Zero, vi Q.Pos.Offset, (Value.slice b1 b2 b3), vi Q.Neg.Offset, (Value.slice b4 b5 b6), vi a1.Flags]) ty30 z z dd z (le_ z) z z ?_
      intro ku bb de
      refine wY (ya z) z (nl (At.inBlock ?_))
      have df := ci.f bb z
      have dg := cj.f bb z
      exact At.join (σ := (Int × UInt64 × Int × List UInt64 × Int × List UInt64 × Int × Own × Value × Value)) (Q.Scale, Q.Zero, Q.Pos.Offset, Q.Pos.Counts, Q.Neg.Offset, Q.Neg.Counts, jw, b0, (Value.slice b1 b2 b3), (Value.slice b4 b5 b6)) ⟨some1 h, (tr_ (su_ bT z) (su_ bb z)), (Sl.mono df frs_imm), (Sl.mono dg frs_imm), de⟩ (.cons z (.cons z (.cons z (.cons z (.cons z (.cons z .nil))))))
     ·refine WC.condF' z bm (sk (At.inBlock ?_))
      have dh := aS.i j z z
      have di := aT.i j z z
      exact At.join (σ := (Int × UInt64 × Int × List UInt64 × Int × List UInt64 × Int × Own × Value × Value)) (a1.Hist.Scale, a1.Hist.Zero, a1.Hist.Pos.Offset, a1.Hist.Pos.Counts, a1.Hist.Neg.Offset, a1.Hist.Neg.Counts, i7, bf, (Value.slice aL aM aN), (Value.slice aO aP aQ)) ⟨some1 h, (sr_ _ _ _), dh, di, ad⟩ (.cons z (.cons z (.cons z (.cons z (.cons z (.cons z .nil))))))
 ·rintro ⟨Z, aa, ab, ck, ac, cl, i8, cN, cm, cn⟩ jB ⟨rfl, I, bn, bo, b7⟩
  replace h := js
  try dsimp only at h I bn bo b7
  refine (show At _ _ _ [(2, vi a2), (3, pt cg 0), (4, pt aR 0), (6, pt a6 0), (7, pt a7 0), (9, vi i8)] _ from ?_)
  refine th (sq ?_)
  obtain ⟨jC, h, dj⟩ := bnd h
  refine WC.join (σ := (Int × Own)) (fun x w' => x.1 = jC ∧ Stp [] cN jB x.2 w') (fun x => [(2, vi a2), (3, pt cg 0), (4, pt aR 0), (6, pt a6 0), (7, pt a7 0), (9, vi x.1)]) ?_ ?_
  ·refine sq (rg (wY (ym z) z (wY (Y.eql_i z z) z (nl (th ?_)))))
   rcases cnd h with ⟨bp, h⟩ | ⟨bp, h⟩
   ·refine WC.condT' z bp (rg ?_)
    have dk := cH.st L z
    have dl := dk.st K z
    have dm := dl.st J z
    have dn := dm.st j z
    have dp := dn.st I z
    refine wY (yL ty32 z z (dp.cells 0 [vB a0.Some, vi a0.Start, vi a0.Time, vi a0.Int_, vu a0.Re, vu a0.Im, vi a0.Hist.Scale, vu a0.Hist.Zero, vi a0.Hist.Pos.Offset, (Value.slice aX aY aZ), vi a0.Hist.Neg.Offset, (Value.slice a3 a4 a5)] z) z) z (wY (yL ty37 z z (b7.cells 0 [vs a1.Name, (Value.slice an ao ap), vi a1.Kind, vi a1.Temp, vB a1.Mono, vi a1.Start, vi a1.Time, vi a1.Int_, vu a1.Re, vu a1.Im, vi Z, vu aa, vi ab, cm, vi ac, cn, vi a1.Flags] z) z) z ?_)
    have dr := a9.i P z z
    have ds := dr.i L z z
    have dt := ds.i K z z
    have du := dt.i J z z
    have dw := du.i j z z
    have dx := dw.i I z z
    have dy := ba.i P z z
    have dz := dy.i L z z
    have dA := dz.i K z z
    have dB := dA.i J z z
    have dC := dB.i j z z
    have dD := dC.i I z z
    have dE := bj.i j z z
    have dF := dE.i I z z
    obtain ⟨jD, dG, h⟩ := bnd h
    refine WL.call (vals := [ag [vB a0.Some, vi a0.Start, vi a0.Time, vi a0.Int_, vu a0.Re, vu a0.Im, vi a0.Hist.Scale, vu a0.Hist.Zero, vi a0.Hist.Pos.Offset, (Value.slice aX aY aZ), vi a0.Hist.Neg.Offset, (Value.slice a3 a4 a5)], ag [vs a1.Name, (Value.slice an ao ap), vi a1.Kind, vi a1.Temp, vB a1.Mono, vi a1.Start, vi a1.Time, vi a1.Int_, vu a1.Re, vu a1.Im, vi Z, vu aa, vi ab, cm, vi ac, cn, vi a1.Flags]]) kok44 z z (c_tocum_check (A := fun _ => True) (a0 := a0) (a1 := (api_Point.mk a1.Name a1.Attrs a1.Kind a1.Temp a1.Mono a1.Start a1.Time a1.Int_ a1.Re a1.Im (api_Hist.mk Z aa (api_Side.mk ab ck) (api_Side.mk ac cl)) a1.Flags)) (Sl.all dx) (Sl.all dD) (Sl.all dF) (Sl.all bn) (Sl.all bo) dG) ?_
    rintro kv kw ⟨rfl, dH⟩
    obtain ⟨jE, kh, ki, cO⟩ := adoptE cN (fun k => 1) dH
    refine wY (ya z) z (nl ?_)
    exact At.join (σ := (Int × Own)) (jD, jE) ⟨some1 h, (su_ cO z)⟩ (.cons z (.cons z (.cons z (.cons z (.cons z (.cons z .nil))))))
   ·refine WC.condF' z bp (sk ?_)
    exact At.join (σ := (Int × Own)) (i8, cN) ⟨some1 h, (sr_ _ _ _)⟩ (.cons z (.cons z (.cons z (.cons z (.cons z (.cons z .nil))))))
  ·rintro ⟨jF, cP⟩ kx ⟨rfl, D⟩
   replace h := dj
   try dsimp only at h D
   refine (show At _ _ _ [(2, vi a2), (3, pt cg 0), (4, pt aR 0), (6, pt a6 0), (7, pt a7 0), (9, vi jF)] _ from ?_)
   refine th (sq (sq (rg (wY (ym z) z (wY (Y.neq_i z z) z (nl (th ?_)))))))
   rcases cnd h with ⟨bq, h⟩ | ⟨bq, h⟩
   ·refine WC.condT' z bq (sq (rg (wY (yb (vals := []) (cells := [vB false, vi 0, vi 0, vi 0, vu 0, vu 0, vi 0, vu 0, vi 0, Value.slice none 0 0, vi 0, Value.slice none 0 0]) (fe_ z) (by kernel_rfl)) z (wY (yb (vals := []) (cells := [vs [], Value.slice none 0 0, vi 0, vi 0, vB false, vi 0, vi 0, vi 0, vu 0, vu 0, vi 0, vu 0, vi 0, Value.slice none 0 0, vi 0, Value.slice none 0 0, vi 0]) (fe_ z) (by kernel_rfl)) z (wY (ym z) z ?_)))))
    have dI := cL.st J z
    have dJ := dI.st j z
    have dK := dJ.st I z
    have dL := dK.st D z
    refine WL.store (v := ag [vB false, vi 0, vi 0, vi 0, vu 0, vu 0, vi 0, vu 0, vi 0, Value.slice none 0 0, vi 0, Value.slice none 0 0]) (cells' := [vB false, vi 0, vi 0, vi 0, vu 0, vu 0, vi 0, vu 0, vi 0, Value.slice none 0 0, vi 0, Value.slice none 0 0]) ty32 z z dL z (le_ z) z z ?_
    intro ky bU dM
    have dN := cM.st j z
    have dO := dN.st I z
    have dP := dO.st D z
    have dQ := dP.st bU z
    refine WL.store (v := Value.agg (List.toArray [vs [], Value.slice none 0 0, vi 0, vi 0, vB false, vi 0, vi 0, vi 0, vu 0, vu 0, vi 0, vu 0, vi 0, Value.slice none 0 0, vi 0, Value.slice none 0 0, vi 0])) (cells' := [vs [], Value.slice none 0 0, vi 0, vi 0, vB false, vi 0, vi 0, vi 0, vu 0, vu 0, vi 0, vu 0, vi 0, Value.slice none 0 0, vi 0, Value.slice none 0 0, vi 0]) ty37 z z dQ z (le_ z) z z ?_
    intro dR bW dS
    refine wY (ya z) z (nl (th (rt (At.thenR ?_))))
    obtain ⟨rfl, rfl, rfl⟩ := tup3 h
    have dT : Stp [12, 13, 14] (Lg.O0 A) w cP dR := (tr_ (su_ P z) (tr_ (su_ L z) (tr_ (su_ K z) (tr_ (su_ J z) (tr_ (su_ j z) (tr_ (su_ I z) (tr_ (su_ D z) (tr_ (su_ bU z) (su_ bW z)))))))))
    have dU := dM.st bW z
    exact At.res (.inl z) z (.cell z (dU.runAg 0 [vB false, vi 0, vi 0, vi 0, vu 0, vu 0, vi 0, vu 0, vi 0, Value.slice none 0 0, vi 0, Value.slice none 0 0] ty32 z z z) (.cell z (dS.runAg 0 [vs [], Value.slice none 0 0, vi 0, vi 0, vB false, vi 0, vi 0, vi 0, vu 0, vu 0, vi 0, vu 0, vi 0, Value.slice none 0 0, vi 0, Value.slice none 0 0, vi 0] ty37 z z z) (.tmp z .nil))) ⟨Value.slice none 0 0, Value.slice none 0 0, Value.slice none 0 0, Value.slice none 0 0, Value.slice none 0 0, z, (se_ dT z z), (Or.inl ⟨z, z⟩), (Or.inl ⟨z, z⟩), (Or.inl ⟨z, z⟩), (Or.inl ⟨z, z⟩), (Or.inl ⟨z, z⟩)⟩
   ·refine WC.condF' z bq (sk (th (sq (rg (wY (ya z) z (nl (th (sq (rg ?_)))))))))
    refine wY (yf fo32_1 z) z ?_
    have dV := cH.st L z
    have dW := dV.st K z
    have dX := dW.st J z
    have dY := dX.st j z
    have dZ := dY.st I z
    have aH := dZ.st D z
    refine wY (yl ty3 z z (aH.cell 1 _ z)) z (wY (yf fo37_6 z) z ?_)
    have a8 := b7.st D z
    refine wY (yl ty3 z z (a8.cell 6 _ z)) z (wY (yb (vals := [(0, vB true), (1, vi a0.Start), (2, vi a1.Time)]) (cells := [vB true, vi a0.Start, vi a1.Time, vi 0, vu 0, vu 0, vi 0, vu 0, vi 0, Value.slice none 0 0, vi 0, Value.slice none 0 0]) (fe_ z) (by kernel_rfl)) z (WL.alloc (O := cP) 15 [vB false, vi 0, vi 0, vi 0, vu 0, vu 0, vi 0, vu 0, vi 0, Value.slice none 0 0, vi 0, Value.slice none 0 0] ty32 z z ?_))
    intro aq ar kz o d0
    refine WL.store (v := ag [vB true, vi a0.Start, vi a1.Time, vi 0, vu 0, vu 0, vi 0, vu 0, vi 0, Value.slice none 0 0, vi 0, Value.slice none 0 0]) (cells' := [vB true, vi a0.Start, vi a1.Time, vi 0, vu 0, vu 0, vi 0, vu 0, vi 0, Value.slice none 0 0, vi 0, Value.slice none 0 0]) ty32 z z d0 z (le_ z) z z ?_
    intro kA t d1
    refine nl (th (sq (WC.drawH [15] [0, 1, 2, 3, 4, 5, 6, 7, 8, 9, 10, 11, 12, 13, 14] ar 16 fmix z (by kernel_rfl) ?_)))
    intro kB l
    refine WD.y 0 z (by kernel_rfl) (fun _ _ _ => yf fo32_3 z) z (WD.y 1 z (by kernel_rfl) (fun kC k2 cQ => have d2 := aH.st o z; have d3 := d2.st t z; have d4 := d3.st l z; have d5 := d4.st cQ z; yl ty3 z z (d5.cell 3 _ z)) z (WD.y 2 z (by kernel_rfl) (fun _ _ _ => yf fo32_4 z) z (WD.y 3 z (by kernel_rfl) (fun kD k3 cR => have d6 := aH.st o z; have d7 := d6.st t z; have d8 := d7.st l z; have d9 := d8.st cR z; yl ty25 z z (d9.cell 4 _ z)) z (WD.y 4 z (by kernel_rfl) (fun _ _ _ => yf fo32_5 z) z (WD.y 5 z (by kernel_rfl) (fun kE k4 cS => have ea := aH.st o z; have eb := ea.st t z; have ec := eb.st l z; have ed := ec.st cS z; yl ty25 z z (ed.cell 5 _ z)) z (WD.y 6 z (by kernel_rfl) (fun _ _ _ => yf fo32_6 z) z (WD.y 7 z (by kernel_rfl) (fun kF k5 cT => have ee := aH.st o z; have ef := ee.st t z; have eg := ef.st l z; have eh := eg.st cT z; yL ty30 z z (eh.cells 6 [vi a0.Hist.Scale, vu a0.Hist.Zero, vi a0.Hist.Pos.Offset, (Value.slice aX aY aZ), vi a0.Hist.Neg.Offset, (Value.slice a3 a4 a5)] z) z) z (WD.y 8 z (by kernel_rfl) (fun _ _ _ => yf fo32_3 z) z (WD.heavy 9 z (by kernel_rfl) ?_)))))))))
    have ei := d1.st l z
    refine WL.store (v := vi a0.Int_) (cells' := [vB true, vi a0.Start, vi a1.Time, vi a0.Int_, vu 0, vu 0, vi 0, vu 0, vi 0, Value.slice none 0 0, vi 0, Value.slice none 0 0]) ty3 z z ei z (le_ z) z z ?_
    intro kG E ej
    refine nl (At.dq (su_ E z) (WD.y 10 z (by kernel_rfl) (fun _ _ _ => yf fo32_4 z) z (WD.heavy 11 z (by kernel_rfl) (WL.store (v := vu a0.Re) (cells' := [vB true, vi a0.Start, vi a1.Time, vi a0.Int_, vu a0.Re, vu 0, vi 0, vu 0, vi 0, Value.slice none 0 0, vi 0, Value.slice none 0 0]) ty25 z z ej z (le_ z) z z ?_))))
    intro kH F ek
    refine nl (At.dq (su_ F z) (WD.y 12 z (by kernel_rfl) (fun _ _ _ => yf fo32_5 z) z (WD.heavy 13 z (by kernel_rfl) (WL.store (v := vu a0.Im) (cells' := [vB true, vi a0.Start, vi a1.Time, vi a0.Int_, vu a0.Re, vu a0.Im, vi 0, vu 0, vi 0, Value.slice none 0 0, vi 0, Value.slice none 0 0]) ty25 z z ek z (le_ z) z z ?_))))
    intro kI G em
    refine nl (At.dq (su_ G z) (WD.y 14 z (by kernel_rfl) (fun _ _ _ => yf fo32_6 z) z (WD.phase [15] [0, 1, 2, 3, 4, 5, 6, 7, 8, 9, 10, 11, 12, 13, 14, 15] (by kernel_rfl) (by kernel_rfl) (WD.heavy 15 z (by kernel_rfl) (WL.store (v := ag [vi a0.Hist.Scale, vu a0.Hist.Zero, vi a0.Hist.Pos.Offset, (Value.slice aX aY aZ), vi a0.Hist.Neg.Offset, (Value.slice a3 a4 a5)]) (cells' := [vB true, vi a0.Start, vi a1.Time, vi a0.Int_, vu a0.Re, vu a0.Im, vi a0.Hist.Scale, vu a0.Hist.Zero, vi a0.Hist.Pos.Offset, (Value.slice aX aY aZ), vi a0.Hist.Neg.Offset, (Value.slice a3 a4 a5)]) ty30 z z em z (le_ z) z z ?_)))))
    intro en H aI
    refine nl (At.dq (su_ H z) (WD.done_ (by kernel_rfl) (th (sq ?_))))
    obtain ⟨jG, h, eo⟩ := bnd h
    refine WC.join (σ := (Int × Bool × Int × Int × Int × UInt64 × UInt64 × Int × UInt64 × Int × List UInt64 × Int × List UInt64 × Own × Value × Value)) (fun x w' => (x.1, x.2.1, x.2.2.1, x.2.2.2.1, x.2.2.2.2.1, x.2.2.2.2.2.1, x.2.2.2.2.2.2.1, x.2.2.2.2.2.2.2.1, x.2.2.2.2.2.2.2.2.1, x.2.2.2.2.2.2.2.2.2.1, x.2.2.2.2.2.2.2.2.2.2.1, x.2.2.2.2.2.2.2.2.2.2.2.1, x.2.2.2.2.2.2.2.2.2.2.2.2.1) = jG ∧ Stp [15] ar en x.2.2.2.2.2.2.2.2.2.2.2.2.2.1 w' ∧ Sl Rep.u w' (imm x.2.2.2.2.2.2.2.2.2.2.2.2.2.1) x.2.2.2.2.2.2.2.2.2.2.2.2.2.2.1 x.2.2.2.2.2.2.2.2.2.2.1 ∧ Sl Rep.u w' (imm x.2.2.2.2.2.2.2.2.2.2.2.2.2.1) x.2.2.2.2.2.2.2.2.2.2.2.2.2.2.2 x.2.2.2.2.2.2.2.2.2.2.2.2.1 ∧ Blk 15 x.2.2.2.2.2.2.2.2.2.2.2.2.2.1 w' aq 32 [vB x.2.1, vi x.2.2.1, vi x.2.2.2.1, vi x.2.2.2.2.1, vu x.2.2.2.2.2.1, vu x.2.2.2.2.2.2.1, vi x.2.2.2.2.2.2.2.1, vu x.2.2.2.2.2.2.2.2.1, vi x.2.2.2.2.2.2.2.2.2.1, x.2.2.2.2.2.2.2.2.2.2.2.2.2.2.1, vi x.2.2.2.2.2.2.2.2.2.2.2.1, x.2.2.2.2.2.2.2.2.2.2.2.2.2.2.2]) (fun x => [(4, pt aR 0), (6, pt a6 0), (7, pt a7 0), (10, vi x.1), (11, pt aq 0)]) ?_ ?_
    ·refine WC.block (sq (rg (wY (yf fo32_0 z) z ?_)))
     have ep := aH.st o z
     have es := ep.st t z
     have et := es.st l z
     have eu := et.st E z
     have ew := eu.st F z
     have ex := ew.st G z
     have co := ex.st H z
     refine wY (yl ty4 z z (co.cell 0 _ z)) z (wY (Y.not z) z ?_)
     obtain ⟨k6, ey, h⟩ := lt1 h
     refine WL.yE (ya z) (congrArg vB ey.symm) z (nl (th ?_))
     rcases cnd h with ⟨br, h⟩ | ⟨br, h⟩
     ·refine WC.condT' z br (rg (wY (ya z) z (nl (At.inBlock ?_))))
      have ez := a9.i P z z
      have eA := ez.i L z z
      have eB := eA.i K z z
      have eC := eB.i J z z
      have eD := eC.i j z z
      have eE := eD.i I z z
      have eF := eE.i D z z
      have eG := eF.i o z z
      have eH := eG.i t z z
      have eI := eH.i l z z
      have eJ := eI.i E z z
      have eK := eJ.i F z z
      have eL := eK.i G z z
      have eM := eL.i H z z
      have eN := ba.i P z z
      have eO := eN.i L z z
      have eP := eO.i K z z
      have eQ := eP.i J z z
      have eR := eQ.i j z z
      have eS := eR.i I z z
      have eT := eS.i D z z
      have eU := eT.i o z z
      have eV := eU.i t z z
      have eW := eV.i l z z
      have eX := eW.i E z z
      have eY := eX.i F z z
      have eZ := eY.i G z z
      have e0 := eZ.i H z z
      exact At.join (σ := (Int × Bool × Int × Int × Int × UInt64 × UInt64 × Int × UInt64 × Int × List UInt64 × Int × List UInt64 × Own × Value × Value)) (1, true, a0.Start, a1.Time, a0.Int_, a0.Re, a0.Im, a0.Hist.Scale, a0.Hist.Zero, a0.Hist.Pos.Offset, a0.Hist.Pos.Counts, a0.Hist.Neg.Offset, a0.Hist.Neg.Counts, ar, (Value.slice aX aY aZ), (Value.slice a3 a4 a5)) ⟨some1 h, (sr_ _ _ _), eM, e0, aI⟩ (.cons z (.cons z (.cons z (.cons z (.cons z .nil)))))
     ·refine WC.condF' z br (sq (rg (wY (yf fo37_5 z) z ?_)))
      have e1 := a8.st o z
      have e2 := e1.st t z
      have e5 := e2.st l z
      have e6 := e5.st E z
      have e7 := e6.st F z
      have e8 := e7.st G z
      have cp := e8.st H z
      refine wY (yl ty3 z z (cp.cell 5 _ z)) z (wY (yf fo32_2 z) z (wY (yl ty3 z z (co.cell 2 _ z)) z (wY (Y.gtr_i z z) z ?_)))
      obtain ⟨k7, e9, h⟩ := lt1 h
      refine WL.yE (ya z) (congrArg vB e9.symm) z (nl (th ?_))
      rcases cnd h with ⟨bs, h⟩ | ⟨bs, h⟩
      ·refine WC.condT' z bs (rg (wY (ya z) z (nl (At.inBlock ?_))))
       have fa := a9.i P z z
       have fb := fa.i L z z
       have fc := fb.i K z z
       have fd := fc.i J z z
       have fe := fd.i j z z
       have ff := fe.i I z z
       have fg := ff.i D z z
       have fh := fg.i o z z
       have fi := fh.i t z z
       have fj := fi.i l z z
       have fk := fj.i E z z
       have fl := fk.i F z z
       have fm := fl.i G z z
       have fn := fm.i H z z
       have fo := ba.i P z z
       have fp := fo.i L z z
       have fq := fp.i K z z
       have fr := fq.i J z z
       have fs := fr.i j z z
       have ft := fs.i I z z
       have fu := ft.i D z z
       have fv := fu.i o z z
       have fw := fv.i t z z
       have fx := fw.i l z z
       have fy := fx.i E z z
       have fz := fy.i F z z
       have fA := fz.i G z z
       have fB := fA.i H z z
       exact At.join (σ := (Int × Bool × Int × Int × Int × UInt64 × UInt64 × Int × UInt64 × Int × List UInt64 × Int × List UInt64 × Own × Value × Value)) (8, true, a0.Start, a1.Time, a0.Int_, a0.Re, a0.Im, a0.Hist.Scale, a0.Hist.Zero, a0.Hist.Pos.Offset, a0.Hist.Pos.Counts, a0.Hist.Neg.Offset, a0.Hist.Neg.Counts, ar, (Value.slice aX aY aZ), (Value.slice a3 a4 a5)) ⟨some1 h, (sr_ _ _ _), fn, fB, aI⟩ (.cons z (.cons z (.cons z (.cons z (.cons z .nil)))))
      ·refine WC.condF' z bs (sq (rg (wY (yL ty37 z z (cp.cells 0 [vs a1.Name, (Value.slice an ao ap), vi a1.Kind, vi a1.Temp, vB a1.Mono, vi a1.Start, vi a1.Time, vi a1.Int_, vu a1.Re, vu a1.Im, vi Z, vu aa, vi ab, cm, vi ac, cn, vi a1.Flags] z) z) z (wY (ym z) z ?_))))
       have fC := a9.i P z z
       have fD := fC.i L z z
       have fF := fD.i K z z
       have fG := fF.i J z z
       have fH := fG.i j z z
       have fI := fH.i I z z
       have fJ := fI.i D z z
       have fK := fJ.i o z z
       have fL := fK.i t z z
       have fN := fL.i l z z
       have fO := fN.i E z z
       have fP := fO.i F z z
       have fQ := fP.i G z z
       have fR := fQ.i H z z
       have fT := ba.i P z z
       have fU := fT.i L z z
       have fV := fU.i K z z
       have fY := fV.i J z z
       have f0 := fY.i j z z
       have f1 := f0.i I z z
       have f2 := f1.i D z z
       have f3 := f2.i o z z
       have f4 := f3.i t z z
       have f5 := f4.i l z z
       have f6 := f5.i E z z
       have f7 := f6.i F z z
       have f8 := f7.i G z z
       have f9 := f8.i H z z
       have ga := bj.i j z z
       have gb := ga.i I z z
       have gc := gb.i D z z
       have gd := gc.i o z z
       have ge := gd.i t z z
       have gf := ge.i l z z
       have gg := gf.i E z z
       have gh := gg.i F z z
       have gi := gh.i G z z
       have gj := gi.i H z z
       have gk := bn.i D z z
       have gl := gk.i o z z
       have gm := gl.i t z z
       have gn := gm.i l z z
       have gp := gn.i E z z
       have gq := gp.i F z z
       have gr := gq.i G z z
       have gs := gr.i H z z
       have gt := bo.i D z z
       have gu := gt.i o z z
       have gw := gu.i t z z
       have gz := gw.i l z z
       have gB := gz.i E z z
       have gC := gB.i F z z
       have gE := gC.i G z z
       have gG := gE.i H z z
       obtain ⟨⟨k8, m⟩, gH, h⟩ := bnd h
       refine WL.call (vals := [pt aq 0, ag [vs a1.Name, (Value.slice an ao ap), vi a1.Kind, vi a1.Temp, vB a1.Mono, vi a1.Start, vi a1.Time, vi a1.Int_, vu a1.Re, vu a1.Im, vi Z, vu aa, vi ab, cm, vi ac, cn, vi a1.Flags], vi a2]) kok45 z z (c_tocum_add (A := imm ar) (a0 := (api_State.mk true a0.Start a1.Time a0.Int_ a0.Re a0.Im a0.Hist)) (a1 := (api_Point.mk a1.Name a1.Attrs a1.Kind a1.Temp a1.Mono a1.Start a1.Time a1.Int_ a1.Re a1.Im (api_Hist.mk Z aa (api_Side.mk ab ck) (api_Side.mk ac cl)) a1.Flags)) fR f9 aI.blk gj gs gG (fun k hk => imm_ne aI.lab z k hk) gH) ?_
       rintro kJ bt ⟨bu, bw, rfl, gI, jH, jI, jJ⟩
       obtain ⟨bc, aU, bh, bX⟩ := adopt ar (fun k => 1) [15] gI (memB aI.lab rfl)
       have cq : Sl Rep.u bt (imm bc) bu m.Hist.Pos.Counts := Sl.adoptI (O := ar) jH (fun _ hk => hk) (fun _ _ => Nat.le_refl _) aU bh
       have cr : Sl Rep.u bt (imm bc) bw m.Hist.Neg.Counts := Sl.adoptI (O := ar) jI (fun _ hk => hk) (fun _ _ => Nat.le_refl _) aU bh
       have cs : Blk 15 bc bt aq 32 [vB m.Some, vi m.Start, vi m.Time, vi m.Int_, vu m.Re, vu m.Im, vi m.Hist.Scale, vu m.Hist.Zero, vi m.Hist.Pos.Offset, bu, vi m.Hist.Neg.Offset, bw] := Blk.adopt aI aU jJ
       refine wY (Y.not z) z ?_
       obtain ⟨k9, gJ, h⟩ := lt1 h
       refine WL.yE (ya z) (congrArg vB gJ.symm) z (nl (th ?_))
       rcases cnd h with ⟨bx, h⟩ | ⟨bx, h⟩
       ·refine WC.condT' z bx (rg (wY (ya z) z (nl (At.inBlock ?_))))
        exact At.join (σ := (Int × Bool × Int × Int × Int × UInt64 × UInt64 × Int × UInt64 × Int × List UInt64 × Int × List UInt64 × Own × Value × Value)) (16, m.Some, m.Start, m.Time, m.Int_, m.Re, m.Im, m.Hist.Scale, m.Hist.Zero, m.Hist.Pos.Offset, m.Hist.Pos.Counts, m.Hist.Neg.Offset, m.Hist.Neg.Counts, bc, bu, bw) ⟨some1 h, (su_ bX z), cq, cr, cs⟩ (.cons z (.cons z (.cons z (.cons z (.cons z .nil)))))
       ·refine WC.condF' z bx (sk (At.inBlock ?_))
        exact At.join (σ := (Int × Bool × Int × Int × Int × UInt64 × UInt64 × Int × UInt64 × Int × List UInt64 × Int × List UInt64 × Own × Value × Value)) (0, m.Some, m.Start, m.Time, m.Int_, m.Re, m.Im, m.Hist.Scale, m.Hist.Zero, m.Hist.Pos.Offset, m.Hist.Pos.Counts, m.Hist.Neg.Offset, m.Hist.Neg.Counts, bc, bu, bw) ⟨some1 h, (su_ bX z), cq, cr, cs⟩ (.cons z (.cons z (.cons z (.cons z (.cons z .nil)))))
    ·rintro ⟨af, jK, jL, jM, jN, jO, jP, jQ, jR, jS, jT, jU, jV, b8, la, lb⟩ gK ⟨rfl, S, bz, bA, bB⟩
     replace h := eo
     try dsimp only at h S bz bA bB
     refine (show At _ _ _ [(4, pt aR 0), (6, pt a6 0), (7, pt a7 0), (10, vi af), (11, pt aq 0)] _ from ?_)
     refine th (sq ?_)
     have gL := bn.i D z z
     have gM := gL.i o z z
     have gO := gM.i t z z
     have gP := gO.i l z z
     have gQ := gP.i E z z
     have gR := gQ.i F z z
     have gU := gR.i G z z
     have gV := gU.i H z z
     have bC := gV.i S z z
     have gW := h
     obtain ⟨au, av, aw, rfl⟩ := bC.shape
     have h := gW
     have gX := bo.i D z z
     have gY := gX.i o z z
     have gZ := gY.i t z z
     have g0 := gZ.i l z z
     have g1 := g0.i E z z
     have g2 := g1.i F z z
     have g3 := g2.i G z z
     have g4 := g3.i H z z
     have bD := g4.i S z z
     have g5 := h
     obtain ⟨ax, ay, az, rfl⟩ := bD.shape
     have h := g5
     have g6 := h
     obtain ⟨jW, jX, jY, rfl⟩ := bz.shape
     have h := g6
     have g7 := h
     obtain ⟨jZ, j0, j1, rfl⟩ := bA.shape
     have h := g7
     obtain ⟨j2, h, g8⟩ := bnd h
     refine WC.join (σ := (Bool × Int × Int × Int × UInt64 × UInt64 × Int × UInt64 × Int × List UInt64 × Int × List UInt64 × Own × Value × Value)) (fun x w' => (x.1, x.2.1, x.2.2.1, x.2.2.2.1, x.2.2.2.2.1, x.2.2.2.2.2.1, x.2.2.2.2.2.2.1, x.2.2.2.2.2.2.2.1, x.2.2.2.2.2.2.2.2.1, x.2.2.2.2.2.2.2.2.2.1, x.2.2.2.2.2.2.2.2.2.2.1, x.2.2.2.2.2.2.2.2.2.2.2.1) = j2 ∧ Stp [15] b8 gK x.2.2.2.2.2.2.2.2.2.2.2.2.1 w' ∧ Sl Rep.u w' (imm x.2.2.2.2.2.2.2.2.2.2.2.2.1) x.2.2.2.2.2.2.2.2.2.2.2.2.2.1 x.2.2.2.2.2.2.2.2.2.1 ∧ Sl Rep.u w' (imm x.2.2.2.2.2.2.2.2.2.2.2.2.1) x.2.2.2.2.2.2.2.2.2.2.2.2.2.2 x.2.2.2.2.2.2.2.2.2.2.2.1 ∧ Blk 15 x.2.2.2.2.2.2.2.2.2.2.2.2.1 w' aq 32 [vB x.1, vi x.2.1, vi x.2.2.1, vi x.2.2.2.1, vu x.2.2.2.2.1, vu x.2.2.2.2.2.1, vi x.2.2.2.2.2.2.1, vu x.2.2.2.2.2.2.2.1, vi x.2.2.2.2.2.2.2.2.1, x.2.2.2.2.2.2.2.2.2.2.2.2.2.1, vi x.2.2.2.2.2.2.2.2.2.2.1, x.2.2.2.2.2.2.2.2.2.2.2.2.2.2]) (fun x => [(4, pt aR 0), (6, pt a6 0), (7, pt a7 0), (10, vi af), (11, pt aq 0)]) ?_ ?_
     ·refine sq (rg (wY (ym z) z (wY (Y.neq_i z z) z (nl (th ?_)))))
      rcases cnd h with ⟨bE, h⟩ | ⟨bE, h⟩
      ·refine WC.condT' z bE (rg (wY (yf fo37_5 z) z ?_))
       have g9 := a8.st o z
       have ha := g9.st t z
       have hc := ha.st l z
       have hd := hc.st E z
       have he := hd.st F z
       have hf := he.st G z
       have hg := hf.st H z
       have aJ := hg.st S z
       refine wY (yl ty3 z z (aJ.cell 5 _ z)) z (wY (yf fo37_6 z) z (wY (yl ty3 z z (aJ.cell 6 _ z)) z (wY (yf fo37_7 z) z (wY (yl ty3 z z (aJ.cell 7 _ z)) z (wY (yf fo37_8 z) z (wY (yl ty25 z z (aJ.cell 8 _ z)) z (wY (yf fo37_9 z) z (wY (yl ty25 z z (aJ.cell 9 _ z)) z (wY (yf fo37_10 z) z ?_)))))))))
       refine wY (yL ty30 z z (aJ.cells 10 [vi Z, vu aa, vi ab, (Value.slice au av aw), vi ac, (Value.slice ax ay az)] z) z) z (wY (yb (vals := [(0, vB true), (1, vi a1.Start), (2, vi a1.Time), (3, vi a1.Int_), (4, vu a1.Re), (5, vu a1.Im), (6, ag [vi Z, vu aa, vi ab, (Value.slice au av aw), vi ac, (Value.slice ax ay az)])]) (cells := [vB true, vi a1.Start, vi a1.Time, vi a1.Int_, vu a1.Re, vu a1.Im, vi Z, vu aa, vi ab, (Value.slice au av aw), vi ac, (Value.slice ax ay az)]) (fe_ z) (by kernel_rfl)) z (WL.store (v := ag [vB true, vi a1.Start, vi a1.Time, vi a1.Int_, vu a1.Re, vu a1.Im, vi Z, vu aa, vi ab, (Value.slice au av aw), vi ac, (Value.slice ax ay az)]) (cells' := [vB true, vi a1.Start, vi a1.Time, vi a1.Int_, vu a1.Re, vu a1.Im, vi Z, vu aa, vi ab, (Value.slice au av aw), vi ac, (Value.slice ax ay az)]) ty32 z z bB z (le_ z) z z ?_))
       intro kK bd hh
       refine nl ?_
       have hi := bC.i bd z z
       have hj := bD.i bd z z
       exact At.join (σ := (Bool × Int × Int × Int × UInt64 × UInt64 × Int × UInt64 × Int × List UInt64 × Int × List UInt64 × Own × Value × Value)) (true, a1.Start, a1.Time, a1.Int_, a1.Re, a1.Im, Z, aa, ab, ck, ac, cl, b8, (Value.slice au av aw), (Value.slice ax ay az)) ⟨some1 h, (su_ bd z), hi, hj, hh⟩ (.cons z (.cons z (.cons z (.cons z (.cons z .nil)))))
      ·refine WC.condF' z bE (sk ?_)
       exact At.join (σ := (Bool × Int × Int × Int × UInt64 × UInt64 × Int × UInt64 × Int × List UInt64 × Int × List UInt64 × Own × Value × Value)) (jK, jL, jM, jN, jO, jP, jQ, jR, jS, jT, jU, jV, b8, (Value.slice jW jX jY), (Value.slice jZ j0 j1)) ⟨some1 h, (sr_ _ _ _), bz, bA, bB⟩ (.cons z (.cons z (.cons z (.cons z (.cons z .nil)))))
     ·rintro ⟨aA, aC, aD, aE, aF, aG, b9, ca, cb, j3, cc, j4, j5, cU, cV⟩ kL ⟨rfl, U, ct, cu, bF⟩
      replace h := g8
      try dsimp only at h U ct cu bF
      refine (show At _ _ _ [(4, pt aR 0), (6, pt a6 0), (7, pt a7 0), (10, vi af), (11, pt aq 0)] _ from ?_)
      refine th (sq (rg (wY (yf fo32_6 z) z (wY (yL ty30 z z (bF.cells 6 [vi b9, vu ca, vi cb, cU, vi cc, cV] z) z) z ?_))))
      obtain ⟨C, hl, h⟩ := bnd h
      refine WL.call (vals := [ag [vi b9, vu ca, vi cb, cU, vi cc, cV]]) kok46 z z (c_hist_Clone (A := fun _ => True) (a0 := (api_Hist.mk b9 ca (api_Side.mk cb j3) (api_Side.mk cc j4))) (Sl.all ct) (Sl.all cu) hl) ?_
      rintro kM cv ⟨j6, j7, rfl, hm, j8, j9⟩
      obtain ⟨bG, kj, bi, V⟩ := adoptE j5 (fun k => 1) hm
      have cw : Sl Rep.u cv (frs bG) j6 C.Pos.Counts := Sl.adoptF j8 (fun k hk => ⟨hk, z⟩) bi
      have cx : Sl Rep.u cv (frs bG) j7 C.Neg.Counts := Sl.adoptF j9 (fun k hk => ⟨hk, z⟩) bi
      refine wY (yf fo32_6 z) z ?_
      have hn := h
      obtain ⟨ah, ai, aj, rfl⟩ := cw.shape
      have h := hn
      have ho := h
      obtain ⟨ak, al, am, rfl⟩ := cx.shape
      have h := ho
      have hp := bF.st V z
      refine WL.store (v := ag [vi C.Scale, vu C.Zero, vi C.Pos.Offset, (Value.slice ah ai aj), vi C.Neg.Offset, (Value.slice ak al am)]) (cells' := [vB aA, vi aC, vi aD, vi aE, vu aF, vu aG, vi C.Scale, vu C.Zero, vi C.Pos.Offset, (Value.slice ah ai aj), vi C.Neg.Offset, (Value.slice ak al am)]) ty30 z z hp z (le_ z) z z ?_
      intro kN T cy
      refine nl (th (sq (WC.drawH [] [0, 1, 2, 3, 4] bG 8 fmix z (by kernel_rfl) ?_)))
      intro kO M
      refine WD.y 0 z (by kernel_rfl) (fun kP lc cW => have hq := cy.st M z; have ht := hq.st cW z; yL ty32 z z (ht.cells 0 [vB aA, vi aC, vi aD, vi aE, vu aF, vu aG, vi C.Scale, vu C.Zero, vi C.Pos.Offset, (Value.slice ah ai aj), vi C.Neg.Offset, (Value.slice ak al am)] z) z) z (WD.y 1 z (by kernel_rfl) (fun kQ ld cX => have hu := cy.st M z; have hv := hu.st cX z; yL ty32 z z (hv.cells 0 [vB aA, vi aC, vi aD, vi aE, vu aF, vu aG, vi C.Scale, vu C.Zero, vi C.Pos.Offset, (Value.slice ah ai aj), vi C.Neg.Offset, (Value.slice ak al am)] z) z) z (WD.y 2 z (by kernel_rfl) (fun kR lf cY => have hw := a8.st o z; have hx := hw.st t z; have hy := hx.st l z; have hz := hy.st E z; have hC := hz.st F z; have hD := hC.st G z; have hE := hD.st H z; have hF := hE.st S z; have hG := hF.st U z; have hH := hG.st V z; have hI := hH.st T z; have hJ := hI.st M z; have hK := hJ.st cY z; yL ty37 z z (hK.cells 0 [vs a1.Name, (Value.slice an ao ap), vi a1.Kind, vi a1.Temp, vB a1.Mono, vi a1.Start, vi a1.Time, vi a1.Int_, vu a1.Re, vu a1.Im, vi Z, vu aa, vi ab, (Value.slice au av aw), vi ac, (Value.slice ax ay az), vi a1.Flags] z) z) z (WD.y 3 z (by kernel_rfl) (fun _ _ _ => ym z) z (WD.heavy 4 z (by kernel_rfl) ?_))))
      have hL := cw.f T z
      have cz := hL.f M z
      have hM := cx.f T z
      have cA := hM.f M z
      have hN := bj.i j z z
      have hO := hN.i I z z
      have hP := hO.i D z z
      have hQ := hP.i o z z
      have hR := hQ.i t z z
      have hS := hR.i l z z
      have hT := hS.i E z z
      have hU := hT.i F z z
      have hV := hU.i G z z
      have hW := hV.i H z z
      have hX := hW.i S z z
      have hY := hX.i U z z
      have hZ := hY.i V z z
      have h0 := hZ.i T z z
      have h1 := h0.i M z z
      have h2 := bC.i U z z
      have h3 := h2.i V z z
      have h4 := h3.i T z z
      have h5 := h4.i M z z
      have h6 := bD.i U z z
      have h7 := h6.i V z z
      have h8 := h7.i T z z
      have h9 := h8.i M z z
      obtain ⟨d, ia, h⟩ := bnd h
      refine WL.call (vals := [ag [vB aA, vi aC, vi aD, vi aE, vu aF, vu aG, vi C.Scale, vu C.Zero, vi C.Pos.Offset, (Value.slice ah ai aj), vi C.Neg.Offset, (Value.slice ak al am)], ag [vs a1.Name, (Value.slice an ao ap), vi a1.Kind, vi a1.Temp, vB a1.Mono, vi a1.Start, vi a1.Time, vi a1.Int_, vu a1.Re, vu a1.Im, vi Z, vu aa, vi ab, (Value.slice au av aw), vi ac, (Value.slice ax ay az), vi a1.Flags], vi af]) kok47 z z (c_tocum_answer (A := fun _ => True) (a0 := (api_State.mk aA aC aD aE aF aG C)) (a1 := (api_Point.mk a1.Name a1.Attrs a1.Kind a1.Temp a1.Mono a1.Start a1.Time a1.Int_ a1.Re a1.Im (api_Hist.mk Z aa (api_Side.mk ab ck) (api_Side.mk ac cl)) a1.Flags)) (Sl.all cz) (Sl.all cA) (Sl.all h1) (Sl.all h5) (Sl.all h9) ia) ?_
      rintro kS bH ⟨ka, kb, kc, rfl, ib, kd, ke, kf⟩
      obtain ⟨bI, kk, aW, ae⟩ := adoptE bG (fun k => 1) ib
      have ic : Sl rep_api_Pair bH (frs bI) ka d.Attrs := Sl.adoptF kd (fun k hk => ⟨hk, z⟩) aW
      have ie : Sl Rep.u bH (frs bI) kb d.Hist.Pos.Counts := Sl.adoptF ke (fun k hk => ⟨hk, z⟩) aW
      have ig : Sl Rep.u bH (frs bI) kc d.Hist.Neg.Counts := Sl.adoptF kf (fun k hk => ⟨hk, z⟩) aW
      refine nl (At.dq (su_ ae z) (WD.phase [13] [0, 1, 2, 3, 4, 5] (by kernel_rfl) (by kernel_rfl) (WD.heavy 5 z (by kernel_rfl) ?_)))
      have ih := cL.st J z
      have ii := ih.st j z
      have ij := ii.st I z
      have ik := ij.st D z
      have il := ik.st o z
      have im := il.st t z
      have io := im.st l z
      have ip := io.st E z
      have iq := ip.st F z
      have ir := iq.st G z
      have it := ir.st H z
      have iu := it.st S z
      have iv := iu.st U z
      have iw := iv.st V z
      have ix := iw.st T z
      have iy := ix.st M z
      have iz := iy.st ae z
      refine WL.store (v := ag [vB aA, vi aC, vi aD, vi aE, vu aF, vu aG, vi C.Scale, vu C.Zero, vi C.Pos.Offset, (Value.slice ah ai aj), vi C.Neg.Offset, (Value.slice ak al am)]) (cells' := [vB aA, vi aC, vi aD, vi aE, vu aF, vu aG, vi C.Scale, vu C.Zero, vi C.Pos.Offset, (Value.slice ah ai aj), vi C.Neg.Offset, (Value.slice ak al am)]) ty32 z z iz z (le_ z) z z ?_
      intro kT W iA
      refine nl (At.dq (su_ W z) (WD.phase [14] [0, 1, 2, 3, 4, 5, 6, 7] (by kernel_rfl) (by kernel_rfl) (WD.heavy 6 z (by kernel_rfl) ?_)))
      have cC := ic.f W z
      have iB := h
      obtain ⟨bJ, bK, bL, rfl⟩ := cC.shape
      have h := iB
      have cD := ie.f W z
      have iC := h
      obtain ⟨bM, bO, bP, rfl⟩ := cD.shape
      have h := iC
      have cE := ig.f W z
      have iD := h
      obtain ⟨bQ, bR, bS, rfl⟩ := cE.shape
      have h := iD
      have iE := cM.st j z
      have iF := iE.st I z
      have iG := iF.st D z
      have iH := iG.st o z
      have iI := iH.st t z
      have iJ := iI.st l z
      have iK := iJ.st E z
      have iL := iK.st F z
      have iM := iL.st G z
      have iN := iM.st H z
      have iO := iN.st S z
      have iP := iO.st U z
      have iQ := iP.st V z
      have iR := iQ.st T z
      have iS := iR.st M z
      have iT := iS.st ae z
      have iU := iT.st W z
      refine WL.store (v := ag [vs d.Name, (Value.slice bJ bK bL), vi d.Kind, vi d.Temp, vB d.Mono, vi d.Start, vi d.Time, vi d.Int_, vu d.Re, vu d.Im, vi d.Hist.Scale, vu d.Hist.Zero, vi d.Hist.Pos.Offset, (Value.slice bM bO bP), vi d.Hist.Neg.Offset, (Value.slice bQ bR bS), vi d.Flags]) (cells' := [vs d.Name, (Value.slice bJ bK bL), vi d.Kind, vi d.Temp, vB d.Mono, vi d.Start, vi d.Time, vi d.Int_, vu d.Re, vu d.Im, vi d.Hist.Scale, vu d.Hist.Zero, vi d.Hist.Pos.Offset, (Value.slice bM bO bP), vi d.Hist.Neg.Offset, (Value.slice bQ bR bS), vi d.Flags]) ty37 z z iU z (le_ z) z z ?_
      intro iV X iW
      refine nl (At.dq (su_ X z) (WD.y 7 z (by kernel_rfl) (fun _ _ _ => ya z) z (WD.done_ (by kernel_rfl) (th (rt ?_)))))
      obtain ⟨rfl, rfl, rfl⟩ := tup3 h
      have aK : Stp [12, 13, 14, 15] (Lg.O0 A) w bI iV := (tr_ (su_ P z) (tr_ (su_ L z) (tr_ (su_ K z) (tr_ (su_ J z) (tr_ (su_ j z) (tr_ (su_ I z) (tr_ (su_ D z) (tr_ (su_ o z) (tr_ (su_ t z) (tr_ (su_ l z) (tr_ (su_ E z) (tr_ (su_ F z) (tr_ (su_ G z) (tr_ (su_ H z) (tr_ (su_ S z) (tr_ (su_ U z) (tr_ (su_ V z) (tr_ (su_ T z) (tr_ (su_ M z) (tr_ (su_ ae z) (tr_ (su_ W z) (su_ X z))))))))))))))))))))))
      have iX := cz.f ae z
      have iY := iX.f W z
      have iZ := iY.f X z
      have i0 := cA.f ae z
      have i1 := i0.f W z
      have i2 := i1.f X z
      have i3 := cC.f X z
      have i4 := cD.f X z
      have i5 := cE.f X z
      have i6 := iA.st X z
      exact At.res (.inl z) z (.cell z (i6.runAg 0 [vB aA, vi aC, vi aD, vi aE, vu aF, vu aG, vi C.Scale, vu C.Zero, vi C.Pos.Offset, (Value.slice ah ai aj), vi C.Neg.Offset, (Value.slice ak al am)] ty32 z z z) (.cell z (iW.runAg 0 [vs d.Name, (Value.slice bJ bK bL), vi d.Kind, vi d.Temp, vB d.Mono, vi d.Start, vi d.Time, vi d.Int_, vu d.Re, vu d.Im, vi d.Hist.Scale, vu d.Hist.Zero, vi d.Hist.Pos.Offset, (Value.slice bM bO bP), vi d.Hist.Neg.Offset, (Value.slice bQ bR bS), vi d.Flags] ty37 z z z) (.tmp z .nil))) ⟨(Value.slice ah ai aj), (Value.slice ak al am), (Value.slice bJ bK bL), (Value.slice bM bO bP), (Value.slice bQ bR bS), z, (se_ aK z z), (Sl.outF iZ aK low0), (Sl.outF i2 aK low0), (Sl.outF i3 aK low0), (Sl.outF i4 aK low0), (Sl.outF i5 aK low0)⟩
end Go.Lg
