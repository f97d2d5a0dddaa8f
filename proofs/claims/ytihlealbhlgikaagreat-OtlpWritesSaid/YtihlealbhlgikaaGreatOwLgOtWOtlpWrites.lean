/- The walks of OtlpWrites and of what it calls, printed by gen.py. -/
import Derived.Test.YtihlealbhlgikaaGreatOwLgOtWOtlpWritesx3
set_option linter.unusedVariables false
namespace Go.Lg
open Go Go.Proofs
set_option maxRecDepth 100000
set_option maxHeartbeats 4000000
theorem c_ref31_fields {A : Nat → Prop} {v0_1 : Value} {v0_13 : Value} {v0_15 : Value} {a0 : api_Point} {w : World} (hs0_1 : Sl rep_api_Pair w A v0_1 a0.Attrs) (hs0_13 : Sl Rep.u w A v0_13 a0.Hist.Pos.Counts) (hs0_15 : Sl Rep.u w A v0_15 a0.Hist.Neg.Counts) {r0 : List api_Fld} (h : ref31_fields a0 = some r0) : Rets Tryz.prog 45 [ag (cp a0 v0_1 v0_13 v0_15)] w (fun v w' => ∃ (u0 : Value), v = u0 ∧ Ext w w' ∧ Sl rep_api_Fld w' (fun k => w.heap.size ≤ k) u0 r0) := by
 unfold ref31_fields at h
 refine Rets.enter Tryz.func45 z z ?_
 have b6 : Sl rep_api_Pair w (imm (Lg.O0 A)) v0_1 a0.Attrs := (Sl.start hs0_1)
 have b7 : Sl Rep.u w (imm (Lg.O0 A)) v0_13 a0.Hist.Pos.Counts := (Sl.start hs0_13)
 have b8 : Sl Rep.u w (imm (Lg.O0 A)) v0_15 a0.Hist.Neg.Counts := (Sl.start hs0_15)
 refine (show WC _ _ _ _ [(0, ag (cp a0 v0_1 v0_13 v0_15))] _ from ?_)
 refine sq (rg ?_)
 have fn := h
 obtain ⟨fg, fh, fi, rfl⟩ := b6.shape
 have h := fn
 have fo := h
 obtain ⟨b9, ca, cb, rfl⟩ := b7.shape
 have h := fo
 have fp := h
 obtain ⟨cc, cd, ce, rfl⟩ := b8.shape
 have h := fp
 refine WL.box (O := (Lg.O0 A)) 11 (cp a0 (vl fg fh fi) (vl b9 ca cb) (vl cc cd ce)) z z z ?_
 intro q gZ hL p am
 refine wY (ya z) z (nl (th (sq (rg (wY (yf fo40_5 z) z (wY (yl ty3 z z (am.cell 5 _ z)) z (wY (Y.conv_iu ty3.u ty33.u z) z (wY (yb (vals := [(0, vi 2), (1, vi 1), (2, vu (toU64 a0.Start))]) (cells := [vi 2, vi 1, vu (toU64 a0.Start), sn]) (fe_ z) (by kernel_rfl)) z (wY (yf fo40_6 z) z ?_)))))))))
 refine wY (yl ty3 z z (am.cell 6 _ z)) z (wY (Y.conv_iu ty3.u ty33.u z) z (wY (yb (vals := [(0, vi 3), (1, vi 1), (2, vu (toU64 a0.Time))]) (cells := [vi 3, vi 1, vu (toU64 a0.Time), sn]) (fe_ z) (by kernel_rfl)) z (WL.buildSlice (O := gZ) (R := (frR rep_api_Fld w.heap.size)) (vals := [(0, ag [vi 2, vi 1, vu (toU64 a0.Start), sn]), (1, ag [vi 3, vi 1, vu (toU64 a0.Time), sn])]) 12 [vi 2, vi 1, vu (toU64 a0.Start), sn, vi 3, vi 1, vu (toU64 a0.Time), sn] (xs := [(api_Fld.mk 2 1 (toU64 a0.Start) []), (api_Fld.mk 3 1 (toU64 a0.Time) [])]) (by decide) ty70 ty72 (show 0 < rep_api_Fld.n by decide) (show 2 * rep_api_Fld.n ≤ 65536 by decide) (fe_ z) (by kernel_rfl) z ⟨[vi 2, vi 1, vu (toU64 a0.Start), sn], [vi 3, vi 1, vu (toU64 a0.Time), sn], z, ⟨[vi 2], [vi 1, vu (toU64 a0.Start), sn], z, z, ⟨[vi 1], [vu (toU64 a0.Start), sn], z, z, ⟨[vu (toU64 a0.Start)], [sn], z, z, ⟨_, z, (Or.inl ⟨z, z⟩)⟩⟩⟩⟩, ⟨[vi 3, vi 1, vu (toU64 a0.Time), sn], [], z, ⟨[vi 3], [vi 1, vu (toU64 a0.Time), sn], z, z, ⟨[vi 1], [vu (toU64 a0.Time), sn], z, z, ⟨[vu (toU64 a0.Time)], [sn], z, z, ⟨_, z, (Or.inl ⟨z, z⟩)⟩⟩⟩⟩, z⟩⟩ z ?_)))
 intro aT fj a3 c cf
 refine wY (ya z) z (nl (th (sq ?_)))
 obtain ⟨g0, h, fq⟩ := bnd h
 refine WC.join (σ := (List api_Fld × Own × Value)) (fun x w' => x.1 = g0 ∧ Stp [12] fj a3 x.2.1 w' ∧ OwnSl 1002 (frR rep_api_Fld w.heap.size) 72 x.2.1 w' x.2.2 x.1) (fun x => [(1, pt q 0), (3, x.2.2)]) ?_ ?_
 ·refine sq (rg (wY (yf fo40_2 z) z ?_))
  have aA := am.st c z
  refine wY (yl ty3 z z (aA.cell 2 _ z)) z (wY (Y.eql_i z z) z (wY (ym z) z ?_))
  refine WL.cut 4 (σ := Unit) (fun _ w' => a3 = w') (fun _ => [(1, pt q 0), (3, aT), (22, vB ((decide (a0.Kind = 2)) || (decide (a0.Kind = 3))))]) ?_ ?_
  ·refine WL.part 18 z (fun a4 => ?_) (fun a4 => ?_)
   ·refine WL.gS z z z z (WL.gS z z z z (WL.gS z z z z (wY (Y.pick (b := true) z z) z (WL.ren (v' := vB ((decide (a0.Kind = 2)) || (decide (a0.Kind = 3)))) 22 z (congrArg vB (orT a4)) ?_))))
    exact nl (At.join () z (.cons z (.cons z (.cons z .nil))))
   ·refine ug z z (wY (yf fo40_2 z) z (ug z z (wY (yl ty3 z z (aA.cell 2 _ z)) z (ug z z (wY (Y.eql_i z z) z (wY (Y.pick (b := false) z z) z (WL.ren (v' := vB ((decide (a0.Kind = 2)) || (decide (a0.Kind = 3)))) 22 z (congrArg vB (orF a4)) ?_)))))))
    exact nl (At.join () z (.cons z (.cons z (.cons z .nil))))
  ·rintro _ _ rfl
   refine (show WL _ _ _ _ _ [(1, pt q 0), (3, aT), (22, vB ((decide (a0.Kind = 2)) || (decide (a0.Kind = 3))))] _ from ?_)
   refine wY (ym z) z ?_
   refine WL.cut 4 (σ := Unit) (fun _ w' => a3 = w') (fun _ => [(1, pt q 0), (3, aT), (27, vB (((decide (a0.Kind = 2)) || (decide (a0.Kind = 3))) || (decide (a0.Kind = 5))))]) ?_ ?_
   ·refine WL.part 23 z (fun a5 => ?_) (fun a5 => ?_)
    ·refine WL.gS z z z z (WL.gS z z z z (WL.gS z z z z (wY (Y.pick (b := true) z z) z (WL.ren (v' := vB (((decide (a0.Kind = 2)) || (decide (a0.Kind = 3))) || (decide (a0.Kind = 5)))) 27 z (congrArg vB (orT a5)) ?_))))
     exact nl (At.join () z (.cons z (.cons z (.cons z .nil))))
    ·refine ug z z (wY (yf fo40_2 z) z (ug z z (wY (yl ty3 z z (aA.cell 2 _ z)) z (ug z z (wY (Y.eql_i z z) z (wY (Y.pick (b := false) z z) z (WL.ren (v' := vB (((decide (a0.Kind = 2)) || (decide (a0.Kind = 3))) || (decide (a0.Kind = 5)))) 27 z (congrArg vB (orF a5)) ?_)))))))
     exact nl (At.join () z (.cons z (.cons z (.cons z .nil))))
   ·rintro _ _ rfl
    refine (show WL _ _ _ _ _ [(1, pt q 0), (3, aT), (27, vB (((decide (a0.Kind = 2)) || (decide (a0.Kind = 3))) || (decide (a0.Kind = 5))))] _ from ?_)
    refine nl (th ?_)
    rcases cnd h with ⟨a6, h⟩ | ⟨a6, h⟩
    ·refine WC.condT' z a6 (rg (wY (ym z) z (wY (yf fo40_8 z) z (wY (yl ty33 z z (aA.cell 8 _ z)) z (wY (yb (vals := [(0, vi 4), (1, vi 1), (2, vu a0.Re)]) (cells := [vi 4, vi 1, vu a0.Re, sn]) (fe_ z) (by kernel_rfl)) z (WL.buildSlice (O := fj) (R := (frR rep_api_Fld w.heap.size)) (vals := [(0, ag [vi 4, vi 1, vu a0.Re, sn])]) 13 [vi 4, vi 1, vu a0.Re, sn] (xs := [(api_Fld.mk 4 1 a0.Re [])]) (by decide) ty70 ty72 (show 0 < rep_api_Fld.n by decide) (show 1 * rep_api_Fld.n ≤ 65536 by decide) (fe_ z) (by kernel_rfl) z ⟨[vi 4, vi 1, vu a0.Re, sn], [], z, ⟨[vi 4], [vi 1, vu a0.Re, sn], z, z, ⟨[vi 1], [vu a0.Re, sn], z, z, ⟨[vu a0.Re], [sn], z, z, ⟨_, z, (Or.inl ⟨z, z⟩)⟩⟩⟩⟩, z⟩ z ?_))))))
     intro ij ik hM bs fs
     obtain ⟨ft, cU, h⟩ := bnd h
     have fu := cf.st bs z z z
     refine WL.append (by decide) ty70 ty72 z (by decide) z z fu fs.src cU z ?_
     intro g1 il hN cV fv
     refine wY (ya z) z (nl ?_)
     obtain ⟨g2, cW, fw⟩ := OwnSl.rlb 1002 rfl fv
     exact At.join (σ := (List api_Fld × Own × Value)) (ft, g2, g1) ⟨some1 h, (tr_ (su_ bs z) (tr_ (su_ cV z) (su_ cW z))), fw⟩ (.cons z (.cons z .nil))
    ·refine WC.condF' z a6 (sk ?_)
     obtain ⟨g3, cX, fx⟩ := OwnSl.rlb 1002 rfl cf
     exact At.join (σ := (List api_Fld × Own × Value)) ([(api_Fld.mk 2 1 (toU64 a0.Start) []), (api_Fld.mk 3 1 (toU64 a0.Time) [])], g3, aT) ⟨some1 h, (su_ cX z), fx⟩ (.cons z (.cons z .nil))
 ·rintro ⟨g4, fk, fl⟩ fy ⟨rfl, d, a7⟩
  replace h := fq
  try dsimp only at h d a7
  refine (show At _ _ _ [(1, pt q 0), (3, fl)] _ from ?_)
  refine th (sq ?_)
  obtain ⟨g5, h, fz⟩ := bnd h
  refine WC.join (σ := (List api_Fld × Own × Value)) (fun x w' => x.1 = g5 ∧ Stp [1002] fk fy x.2.1 w' ∧ OwnSl 1004 (frR rep_api_Fld w.heap.size) 72 x.2.1 w' x.2.2 x.1) (fun x => [(1, pt q 0), (3, x.2.2)]) ?_ ?_
  ·refine sq (rg (wY (yf fo40_2 z) z ?_))
   have cg := (am.st c z).st d z
   refine wY (yl ty3 z z (cg.cell 2 _ z)) z (wY (Y.eql_i z z) z (nl (th ?_)))
   rcases cnd h with ⟨a8, h⟩ | ⟨a8, h⟩
   ·refine WC.condT' z a8 (rg (wY (ym z) z (wY (yf fo40_7 z) z (wY (yl ty3 z z (cg.cell 7 _ z)) z (wY (Y.conv_iu ty3.u ty33.u z) z (wY (yb (vals := [(0, vi 6), (1, vi 1), (2, vu (toU64 a0.Int_))]) (cells := [vi 6, vi 1, vu (toU64 a0.Int_), sn]) (fe_ z) (by kernel_rfl)) z (WL.buildSlice (O := fk) (R := (frR rep_api_Fld w.heap.size)) (vals := [(0, ag [vi 6, vi 1, vu (toU64 a0.Int_), sn])]) 14 [vi 6, vi 1, vu (toU64 a0.Int_), sn] (xs := [(api_Fld.mk 6 1 (toU64 a0.Int_) [])]) (by decide) ty70 ty72 (show 0 < rep_api_Fld.n by decide) (show 1 * rep_api_Fld.n ≤ 65536 by decide) (fe_ z) (by kernel_rfl) z ⟨[vi 6, vi 1, vu (toU64 a0.Int_), sn], [], z, ⟨[vi 6], [vi 1, vu (toU64 a0.Int_), sn], z, z, ⟨[vi 1], [vu (toU64 a0.Int_), sn], z, z, ⟨[vu (toU64 a0.Int_)], [sn], z, z, ⟨_, z, (Or.inl ⟨z, z⟩)⟩⟩⟩⟩, z⟩ z ?_)))))))
    intro im io hO bt fB
    obtain ⟨fC, cY, h⟩ := bnd h
    have fD := a7.st bt z z z
    refine WL.append (by decide) ty70 ty72 z (by decide) z z fD fB.src cY z ?_
    intro g6 ip hP cZ fF
    refine wY (ya z) z (nl ?_)
    obtain ⟨g7, c0, fG⟩ := OwnSl.rlb 1004 rfl fF
    exact At.join (σ := (List api_Fld × Own × Value)) (fC, g7, g6) ⟨some1 h, (tr_ (su_ bt z) (tr_ (su_ cZ z) (su_ c0 z))), fG⟩ (.cons z (.cons z .nil))
   ·refine WC.condF' z a8 (sk ?_)
    obtain ⟨g8, c1, fH⟩ := OwnSl.rlb 1004 rfl a7
    exact At.join (σ := (List api_Fld × Own × Value)) (g4, g8, fl) ⟨some1 h, (su_ c1 z), fH⟩ (.cons z (.cons z .nil))
  ·rintro ⟨g9, ha, fm⟩ hQ ⟨rfl, e, ch⟩
   replace h := fz
   try dsimp only at h e ch
   refine (show At _ _ _ [(1, pt q 0), (3, fm)] _ from ?_)
   refine th (sq (rg (wY (yf fo40_1 z) z ?_)))
   have a9 := ((am.st c z).st d z).st e z
   refine wY (yl ty32 z z (a9.cell 1 _ z)) z ?_
   have c3 := (((b6.i p z z).i c z z).i d z z).i e z z
   obtain ⟨ci, c4, h⟩ := bnd h
   refine WL.call (vals := [(vl fg fh fi)]) kok30 z z (c_ref11_Sorted (A := fun _ => True) (Sl.all c3) c4) ?_
   rintro L ak ⟨_, rfl, c5, fN⟩
   obtain ⟨aC, gO, b0, a⟩ := adoptE ha (fun k => if ob L = some k then 15 else 1) c5
   have c6 : OwnSl 15 rep_api_Pair 67 aC ak L ci := RowF.adopt 15 flat_api_Pair fN b0 (fun k hk => if_pos hk)
   refine wY (ya z) z (nl (th (sq (sq (rg (wY (ya z) z (nl (th ?_))))))))
   obtain ⟨fO, h, c7⟩ := bnd h
   refine WC.join (σ := (List api_Fld × Own × Value)) (fun x w' => x.1 = fO ∧ Stp [1004, 1005, 1006] aC ak x.2.1 w' ∧ OwnSl 1008 (frR rep_api_Fld w.heap.size) 72 x.2.1 w' x.2.2 x.1) (fun x => [(1, pt q 0), (3, x.2.2)]) ?_ ?_
   ·refine WC.block ?_
    obtain ⟨cj, h, c8⟩ := flow1 h
    obtain ⟨ck, h⟩ := loop_some h
    refine WC.joinB 0 (σ := (List api_Fld × Own × Value)) (fun x w' => cj = .go x.1 ∧ Stp [1004, 1005] aC ak x.2.1 w' ∧ OwnSl 1006 (frR rep_api_Fld w.heap.size) 72 x.2.1 w' x.2.2 x.1) (fun x => [(1, pt q 0), (3, x.2.2)]) ?_ ?_
    ·have c9 := ch.st a z z z
     obtain ⟨fP, cl, da⟩ := OwnSl.rlb 1005 rfl c9
     refine WC.loop (σ := (List api_Fld × Int × Own × Value)) (fun x k w' => loopN k (ref31_fields_lp1 ci) (x.1, x.2.1) = some cj ∧ Stp [1004, 1005] aC ak x.2.2.1 w' ∧ OwnSl 1005 (frR rep_api_Fld w.heap.size) 72 x.2.2.1 w' x.2.2.2 x.1) (fun x => [(1, pt q 0), (3, x.2.2.2), (4, L), (5, vi x.2.1)]) (g9, 0, fP, fm) ck (.cons z (.cons z (.cons z (.cons z .nil)))) ⟨h, (su_ cl z), da⟩ ?_
     rintro ⟨fQ, ba, aD, U⟩ ck he ⟨h, E, aE⟩
     obtain ⟨fR, hR, rfl, h, bu⟩ := rnd1 h
     unfold ref31_fields_lp1 at h
     try dsimp only at h E aE
     refine (show WC _ _ _ _ [(1, pt q 0), (3, U), (4, L), (5, vi ba)] _ from ?_)
     refine sq (sq (rg (wY (ym z) z (wY (ym z) z ?_))))
     have bw := c6.st E z z z
     refine wY (Y.len ty32 z bw.src.sl) z (wY (Y.lss_i z z) z (nl (th ?_)))
     rcases cnd h with ⟨aF, h⟩ | ⟨aF, h⟩
     ·refine WC.condT' z aF (sk (th (sq (WC.block (WC.drawH [1005] [0, 1, 2, 3, 4, 5, 6, 7, 8, 9, 10, 11, 12, 13, 14, 15, 16, 17, 18, 19] aD 20 fmix z (by kernel_rfl) ?_)))))
      intro db G
      refine WD.y 0 z (by kernel_rfl) (fun _ _ _ => ym z) z (WD.y 1 z (by kernel_rfl) (fun _ _ _ => ym z) z (WD.y 2 z (by kernel_rfl) (fun _ _ _ => ym z) z ?_))
      obtain ⟨an, dc, h⟩ := bnd h
      have al := bw.st G z z z
      obtain ⟨hS, hc, hf, bx, dd, de, aG, cm⟩ := OwnSl.at al dc
      obtain ⟨_, _, rfl, rfl, rfl⟩ := cm
      replace aG : CellsAt _ _ _ [vs an.Key, vs an.Val] := aG
      have cn := CAt.own al bx aG
      refine WD.y 3 z (by kernel_rfl) (fun _ _ _ => Y.indexAddr ty32 ty67 z bx z dd de) z (WD.y 4 z (by kernel_rfl) (fun _ _ _ => yf fo67_0 z) z (WD.y 5 z (by kernel_rfl) (fun hg hT co => have df := cn.st co z; yl ty9 z z (df.at_.sub 0 [vs an.Key] z)) z (WD.y 8 z (by kernel_rfl) (fun _ _ _ => ym z) z (WD.y 9 z (by kernel_rfl) (fun _ _ _ => ym z) z ?_))))
      obtain ⟨ao, dg, h⟩ := bnd h
      obtain ⟨hU, hd, hh, bz, dh, di, aH, cq⟩ := OwnSl.at al dg
      obtain ⟨_, _, rfl, rfl, rfl⟩ := cq
      replace aH : CellsAt _ _ _ [vs ao.Key, vs ao.Val] := aH
      have cr := CAt.own al bz aH
      refine WD.y 10 z (by kernel_rfl) (fun _ _ _ => Y.indexAddr ty32 ty67 z bz z dh di) z (WD.y 11 z (by kernel_rfl) (fun _ _ _ => yf fo67_1 z) z (WD.y 12 z (by kernel_rfl) (fun hi hV cs => have dj := cr.st cs z; yl ty9 z z (dj.at_.sub 1 [vs ao.Val] z)) z ?_))
      obtain ⟨fT, h, dk⟩ := bnd h
      refine WD.join (σ := (List UInt8 × List UInt8 × Own × Value × Value)) (f' := 5) [14, 13, 12, 11, 10, 9, 8, 7, 6, 5, 4, 3, 2, 1, 0] (fun x O' w' => (x.1, x.2.1) = fT ∧ Stp [] aD db x.2.2.1 w' ∧ Sl Rep.b w' (frs x.2.2.1) x.2.2.2.1 x.1 ∧ Sl Rep.b w' (frs x.2.2.1) x.2.2.2.2 x.2.1 ∧ x.2.2.1 = O') (fun x => [(1, pt q 0), (3, U), (4, L), (5, vi ba), (53, U), (60, ag [vi 1, vi 2, vu 0, x.2.2.2.1]), (67, ag [vi 2, vi 2, vu 0, x.2.2.2.2])]) (fun bA => ?_) ?_
      ·refine WD.heavy2 6 13 z z (by kernel_rfl) ?_ ?_
       ·refine WL.s2b (O := aD) ty9 ty51 ty5 z z ?_
        intro hW fU hj aU bB
        refine nl (At.dq (su_ aU z) ?_)
        have dl := h
        obtain ⟨bb, bc, bd, rfl⟩ := bB.shape
        have h := dl
        refine WD.y 7 z (by kernel_rfl) (fun _ _ _ => yb (vals := [(0, vi 1), (1, vi 2), (3, (vl bb bc bd))]) (cells := [vi 1, vi 2, vu 0, (vl bb bc bd)]) (fe_ z) (by kernel_rfl)) z (WD.heavy 13 z (by kernel_rfl) (WL.s2b (O := fU) ty9 ty51 ty5 z z ?_))
        intro hX fV hm ap bC
        refine nl (At.dq (su_ ap z) ?_)
        have dm := h
        obtain ⟨bf, bg, bh, rfl⟩ := bC.shape
        have h := dm
        refine WD.y 14 z (by kernel_rfl) (fun _ _ _ => yb (vals := [(0, vi 2), (1, vi 2), (3, (vl bf bg bh))]) (cells := [vi 2, vi 2, vu 0, (vl bf bg bh)]) (fe_ z) (by kernel_rfl)) z ?_
        have dn := bB.f ap z
        refine WD.perm _ [14, 13, 12, 11, 10, 9, 8, 7, 6, 5, 4, 3, 2, 1, 0] (by kernel_rfl) ?_
        exact bA (an.Key, ao.Val, fV, (vl bb bc bd), (vl bf bg bh)) _ _ _ ⟨some1 h, (tr_ (su_ aU z) (su_ ap z)), dn, bC, z⟩ (.cons z (.cons z (.cons z (.cons z (.cons z (.cons z (.cons z .nil)))))))
       ·try simp only [Option.bind_assoc] at h
        try simp only [Option.bind_some] at h
        refine WL.s2b (O := aD) ty9 ty51 ty5 z z ?_
        intro hY fY hn aW bD
        refine nl (At.dq (su_ aW z) ?_)
        have dp := h
        obtain ⟨bi, bj, bk, rfl⟩ := bD.shape
        have h := dp
        refine WD.y 14 z (by kernel_rfl) (fun _ _ _ => yb (vals := [(0, vi 2), (1, vi 2), (3, (vl bi bj bk))]) (cells := [vi 2, vi 2, vu 0, (vl bi bj bk)]) (fe_ z) (by kernel_rfl)) z (WD.heavy 6 z (by kernel_rfl) (WL.s2b (O := fY) ty9 ty51 ty5 z z ?_))
        intro hZ f0 ho aq bE
        refine nl (At.dq (su_ aq z) ?_)
        have dr := h
        obtain ⟨bl, bm, bn, rfl⟩ := bE.shape
        have h := dr
        refine WD.y 7 z (by kernel_rfl) (fun _ _ _ => yb (vals := [(0, vi 1), (1, vi 2), (3, (vl bl bm bn))]) (cells := [vi 1, vi 2, vu 0, (vl bl bm bn)]) (fe_ z) (by kernel_rfl)) z ?_
        have ds := bD.f aq z
        refine WD.perm _ [14, 13, 12, 11, 10, 9, 8, 7, 6, 5, 4, 3, 2, 1, 0] (by kernel_rfl) ?_
        exact bA (an.Key, ao.Val, f0, (vl bl bm bn), (vl bi bj bk)) _ _ _ ⟨some1 h, (tr_ (su_ aW z) (su_ aq z)), bE, ds, z⟩ (.cons z (.cons z (.cons z (.cons z (.cons z (.cons z (.cons z .nil)))))))
      ·rintro ⟨f1, f2, bo, f3, f4⟩ _ bG ⟨rfl, H, aI, aJ, rfl⟩
       replace h := dk
       try dsimp only at h H aI aJ
       refine (show WD _ _ _ _ _ _ _ _ [(1, pt q 0), (3, U), (4, L), (5, vi ba), (53, U), (60, ag [vi 1, vi 2, vu 0, f3]), (67, ag [vi 2, vi 2, vu 0, f4])] _ _ from ?_)
       refine WD.heavy 15 z (by kernel_rfl) ?_
       have dt := h
       obtain ⟨W, X, Z, rfl⟩ := aI.shape
       have h := dt
       have du := h
       obtain ⟨M, P, Q, rfl⟩ := aJ.shape
       have h := du
       have dw : Stp [12, 1002, 1004, 1005] (Lg.O0 A) w bo bG := (tr_ (su_ p z) (tr_ (su_ c z) (tr_ (su_ d z) (tr_ (su_ e z) (tr_ (su_ a z) (tr_ (su_ E z) (tr_ (su_ G z) (su_ H z))))))))
       have dx : Stp [12, 1002, 1004, 1005] (Lg.O0 A) w bo bG := (tr_ (su_ p z) (tr_ (su_ c z) (tr_ (su_ d z) (tr_ (su_ e z) (tr_ (su_ a z) (tr_ (su_ E z) (tr_ (su_ G z) (su_ H z))))))))
       refine WL.buildSlice (O := bo) (R := (frR rep_api_Fld w.heap.size)) (vals := [(0, ag [vi 1, vi 2, vu 0, (vl W X Z)]), (1, ag [vi 2, vi 2, vu 0, (vl M P Q)])]) 16 [vi 1, vi 2, vu 0, (vl W X Z), vi 2, vi 2, vu 0, (vl M P Q)] (xs := [(api_Fld.mk 1 2 0 f1), (api_Fld.mk 2 2 0 f2)]) (by decide) ty70 ty72 (show 0 < rep_api_Fld.n by decide) (show 2 * rep_api_Fld.n ≤ 65536 by decide) (fe_ z) (by kernel_rfl) z ⟨[vi 1, vi 2, vu 0, (vl W X Z)], [vi 2, vi 2, vu 0, (vl M P Q)], z, ⟨[vi 1], [vi 2, vu 0, (vl W X Z)], z, z, ⟨[vi 2], [vu 0, (vl W X Z)], z, z, ⟨[vu 0], [(vl W X Z)], z, z, ⟨_, z, (Sl.frB aI dw low0)⟩⟩⟩⟩, ⟨[vi 2, vi 2, vu 0, (vl M P Q)], [], z, ⟨[vi 2], [vi 2, vu 0, (vl M P Q)], z, z, ⟨[vi 2], [vu 0, (vl M P Q)], z, z, ⟨[vu 0], [(vl M P Q)], z, z, ⟨_, z, (Sl.frB aJ dx low0)⟩⟩⟩⟩, z⟩⟩ z ?_
       intro f5 f6 hp S dy
       refine nl (At.dq (su_ S z) (WD.heavy 16 z (by kernel_rfl) ?_))
       obtain ⟨j, dz, h⟩ := bnd h
       refine WL.call (vals := [vi 7, f5]) kok44 z z (c_ref31_sub (A := fun _ => True) (Sl.unfr dy.src.sl) dz) ?_
       rintro hr bH ⟨f7, rfl, dA, f8⟩
       obtain ⟨bp, gQ, b1, T⟩ := adoptE f6 (fun k => 1) dA
       have bI : Sl Rep.b bH (frs bp) f7 j.B := Sl.adoptF f8 (fun k hk => ⟨hk, z⟩) b1
       refine nl (At.dq (su_ T z) (WD.heavy 17 z (by kernel_rfl) ?_))
       have dB := h
       obtain ⟨aa, ab, ac, rfl⟩ := bI.shape
       have h := dB
       have dC : Stp [12, 1002, 1004, 1005] (Lg.O0 A) w bp bH := (tr_ (su_ p z) (tr_ (su_ c z) (tr_ (su_ d z) (tr_ (su_ e z) (tr_ (su_ a z) (tr_ (su_ E z) (tr_ (su_ G z) (tr_ (su_ H z) (tr_ (su_ S z) (su_ T z))))))))))
       refine WL.buildSlice (O := bp) (R := (frR rep_api_Fld w.heap.size)) (vals := [(0, ag [vi j.Num, vi j.Type_, vu j.V, (vl aa ab ac)])]) 17 [vi j.Num, vi j.Type_, vu j.V, (vl aa ab ac)] (xs := [j]) (by decide) ty70 ty72 (show 0 < rep_api_Fld.n by decide) (show 1 * rep_api_Fld.n ≤ 65536 by decide) (fe_ z) (by kernel_rfl) z ⟨[vi j.Num, vi j.Type_, vu j.V, (vl aa ab ac)], [], z, ⟨[vi j.Num], [vi j.Type_, vu j.V, (vl aa ab ac)], z, z, ⟨[vi j.Type_], [vu j.V, (vl aa ab ac)], z, z, ⟨[vu j.V], [(vl aa ab ac)], z, z, ⟨_, z, (Sl.frB bI dC low0)⟩⟩⟩⟩, z⟩ z ?_
       intro h0 h1 hs ar dD
       refine nl (At.dq (su_ ar z) (WD.heavy 18 z (by kernel_rfl) ?_))
       obtain ⟨dE, ct, h⟩ := bnd h
       have dJ := ((((aE.st G z z z).st H z z z).st S z z z).st T z z z).st ar z z z
       refine WL.append (by decide) ty70 ty72 z (by decide) z z dJ dD.src ct z ?_
       intro f9 ga ht aX dK
       refine nl (At.dq (su_ aX z) (WD.y 19 z (by kernel_rfl) (fun _ _ _ => ya z) z (WD.done_ (by kernel_rfl) (At.inBlock (th (rg (wY (ym z) z (wY (Y.add_i z z) z ?_))))))))
       obtain ⟨gb, dL, h⟩ := lt1 h
       refine WL.yE (ya z) (congrArg vi dL.symm) z (nl ?_)
       exact At.round (dE, gb, ga, f9) fR (Nat.lt_succ_self _) ⟨next1 h bu, (tr_ (su_ E z) (tr_ (su_ G z) (tr_ (su_ H z) (tr_ (su_ S z) (tr_ (su_ T z) (tr_ (su_ ar z) (su_ aX z))))))), dK⟩ (.cons z (.cons z (.cons z (.cons z .nil))))
     ·refine WC.condF' z aF (WC.exit (At.thenX (At.loopX ?_)))
      obtain ⟨gc, cu, dM⟩ := OwnSl.rlb 1006 rfl aE
      exact At.hitB (σ := (List api_Fld × Own × Value)) (fQ, gc, U) ⟨brk1 h bu, (tr_ (su_ E z) (su_ cu z)), dM⟩ (.cons z (.cons z .nil))
    ·rintro ⟨gd, h2, cv⟩ hu ⟨rfl, aY, bJ⟩
     replace h := flowK_go c8
     try dsimp only at h aY bJ
     refine (show At _ _ _ [(1, pt q 0), (3, cv)] _ from ?_)
     refine At.inBlockHit ?_
     obtain ⟨ge, cw, dN⟩ := OwnSl.rlb 1008 rfl bJ
     exact At.join (σ := (List api_Fld × Own × Value)) (gd, ge, cv) ⟨some1 h, (tr_ (su_ aY z) (su_ cw z)), dN⟩ (.cons z (.cons z .nil))
   ·rintro ⟨gf, cx, cy⟩ dO ⟨rfl, l, aK⟩
    replace h := c7
    try dsimp only at h l aK
    refine (show At _ _ _ [(1, pt q 0), (3, cy)] _ from ?_)
    refine th (sq ?_)
    obtain ⟨gg, h, dP⟩ := bnd h
    refine WC.join (σ := (List api_Fld × Own × Value)) (fun x w' => x.1 = gg ∧ Stp [1008, 1009] cx dO x.2.1 w' ∧ OwnSl 1011 (frR rep_api_Fld w.heap.size) 72 x.2.1 w' x.2.2 x.1) (fun x => [(1, pt q 0), (3, x.2.2)]) ?_ ?_
    ·refine sq (rg (wY (yf fo40_2 z) z ?_))
     have aL := (a9.st a z).st l z
     refine wY (yl ty3 z z (aL.cell 2 _ z)) z (wY (Y.eql_i z z) z (nl (th ?_)))
     rcases cnd h with ⟨aM, h⟩ | ⟨aM, h⟩
     ·refine WC.condT' z aM (sq (rg (wY (ym z) z (wY (yf fo40_10 z) z (wY (yf fo38_0 z) z (wY (yl ty3 z z (aL.cell 10 _ z)) z ?_))))))
      obtain ⟨K, dR, h⟩ := bnd h
      refine WL.call (vals := [vi a0.Hist.Scale]) kok83 z z (c_ref02_Zig dR) ?_
      rintro hv hw ⟨rfl, dS⟩
      obtain ⟨gh, gR, gU, t⟩ := adoptE cx (fun k => 1) dS
      refine wY (yb (vals := [(0, vi 8), (2, vu K)]) (cells := [vi 8, vi 0, vu K, sn]) (fe_ z) (by kernel_rfl)) z (WL.buildSlice (O := gh) (R := (frR rep_api_Fld w.heap.size)) (vals := [(0, ag [vi 8, vi 0, vu K, sn])]) 18 [vi 8, vi 0, vu K, sn] (xs := [(api_Fld.mk 8 0 K [])]) (by decide) ty70 ty72 (show 0 < rep_api_Fld.n by decide) (show 1 * rep_api_Fld.n ≤ 65536 by decide) (fe_ z) (by kernel_rfl) z ⟨[vi 8, vi 0, vu K, sn], [], z, ⟨[vi 8], [vi 0, vu K, sn], z, z, ⟨[vi 0], [vu K, sn], z, z, ⟨[vu K], [sn], z, z, ⟨_, z, (Or.inl ⟨z, z⟩)⟩⟩⟩⟩, z⟩ z ?_)
      intro h3 h4 hx C dT
      obtain ⟨hy, cz, h⟩ := bnd h
      have dV := (aK.st t z z z).st C z z z
      refine WL.append (by decide) ty70 ty72 z (by decide) z z dV dT.src cz z ?_
      intro h5 gi hz F dW
      refine wY (ya z) z (nl (th (sq (rg (wY (ym z) z (wY (yf fo40_10 z) z (wY (yf fo38_1 z) z ?_)))))))
      have aN := ((aL.st t z).st C z).st F z
      refine wY (yl ty33 z z (aN.cell 11 _ z)) z (wY (yb (vals := [(0, vi 9), (2, vu a0.Hist.Zero)]) (cells := [vi 9, vi 0, vu a0.Hist.Zero, sn]) (fe_ z) (by kernel_rfl)) z (WL.buildSlice (O := gi) (R := (frR rep_api_Fld w.heap.size)) (vals := [(0, ag [vi 9, vi 0, vu a0.Hist.Zero, sn])]) 19 [vi 9, vi 0, vu a0.Hist.Zero, sn] (xs := [(api_Fld.mk 9 0 a0.Hist.Zero [])]) (by decide) ty70 ty72 (show 0 < rep_api_Fld.n by decide) (show 1 * rep_api_Fld.n ≤ 65536 by decide) (fe_ z) (by kernel_rfl) z ⟨[vi 9, vi 0, vu a0.Hist.Zero, sn], [], z, ⟨[vi 9], [vi 0, vu a0.Hist.Zero, sn], z, z, ⟨[vi 0], [vu a0.Hist.Zero, sn], z, z, ⟨[vu a0.Hist.Zero], [sn], z, z, ⟨_, z, (Or.inl ⟨z, z⟩)⟩⟩⟩⟩, z⟩ z ?_))
      intro h6 h7 hA r dZ
      obtain ⟨d0, cA, h⟩ := bnd h
      have d1 := dW.st r z z z
      refine WL.append (by decide) ty70 ty72 z (by decide) z z d1 dZ.src cA z ?_
      intro gj cC d2 D bK
      refine wY (ya z) z (nl (th (sq ?_)))
      obtain ⟨gk, h, d3⟩ := bnd h
      refine WC.join (σ := (List api_Fld × Own × Value)) (fun x w' => x.1 = gk ∧ Stp [1008] cC d2 x.2.1 w' ∧ OwnSl 1009 (frR rep_api_Fld w.heap.size) 72 x.2.1 w' x.2.2 x.1) (fun x => [(1, pt q 0), (3, x.2.2)]) ?_ ?_
      ·refine sq (rg (wY (yf fo40_10 z) z (wY (yf fo38_2 z) z (wY (yf fo36_1 z) z ?_))))
       have bL := (aN.st r z).st D z
       refine wY (yl ty34 z z (bL.cell 13 _ z)) z ?_
       have bM := ((((((((((b7.i p z z).i c z z).i d z z).i e z z).i a z z).i l z z).i t z z).i C z z).i F z z).i r z z).i D z z
       refine wY (Y.len ty34 z bM) z (wY (Y.gtr_i z z) z (nl (th ?_)))
       rcases cnd h with ⟨aO, h⟩ | ⟨aO, h⟩
       ·refine WC.condT' z aO (rg (wY (ym z) z (wY (yf fo40_10 z) z (wY (yf fo38_2 z) z (wY (yL ty36 z z (bL.cells 12 [vi a0.Hist.Pos.Offset, (vl b9 ca cb)] z) z) z ?_)))))
        obtain ⟨gl, ef, h⟩ := bnd h
        refine WL.call (vals := [ag [vi a0.Hist.Pos.Offset, (vl b9 ca cb)]]) kok84 z z (c_ref31_side (A := fun _ => True) (a0 := a0.Hist.Pos) (Sl.all bM) ef) ?_
        rintro bO eg ⟨_, rfl, eh, gm⟩
        obtain ⟨cD, gV, b2, au⟩ := adoptE cC (fun k => 1) eh
        have ei : Sl rep_api_Fld eg (frs cD) bO gl := Sl.adoptF gm (fun k hk => ⟨hk, z⟩) b2
        obtain ⟨m, ej, h⟩ := bnd h
        refine WL.call (vals := [vi 10, bO]) kok44 z z (c_ref31_sub (A := fun _ => True) (Sl.all ei) ej) ?_
        rintro hC bP ⟨gn, rfl, ek, gp⟩
        obtain ⟨bq, gW, b3, av⟩ := adoptE cD (fun k => 1) ek
        have bQ : Sl Rep.b bP (frs bq) gn m.B := Sl.adoptF gp (fun k hk => ⟨hk, z⟩) b3
        have em := h
        obtain ⟨ad, ae, af, rfl⟩ := bQ.shape
        have h := em
        have en : Stp [12, 1002, 1004, 1005, 1006, 1008] (Lg.O0 A) w bq bP := (tr_ (su_ p z) (tr_ (su_ c z) (tr_ (su_ d z) (tr_ (su_ e z) (tr_ (su_ a z) (tr_ (su_ l z) (tr_ (su_ t z) (tr_ (su_ C z) (tr_ (su_ F z) (tr_ (su_ r z) (tr_ (su_ D z) (tr_ (su_ au z) (su_ av z)))))))))))))
        refine WL.buildSlice (O := bq) (R := (frR rep_api_Fld w.heap.size)) (vals := [(0, ag [vi m.Num, vi m.Type_, vu m.V, (vl ad ae af)])]) 20 [vi m.Num, vi m.Type_, vu m.V, (vl ad ae af)] (xs := [m]) (by decide) ty70 ty72 (show 0 < rep_api_Fld.n by decide) (show 1 * rep_api_Fld.n ≤ 65536 by decide) (fe_ z) (by kernel_rfl) z ⟨[vi m.Num, vi m.Type_, vu m.V, (vl ad ae af)], [], z, ⟨[vi m.Num], [vi m.Type_, vu m.V, (vl ad ae af)], z, z, ⟨[vi m.Type_], [vu m.V, (vl ad ae af)], z, z, ⟨[vu m.V], [(vl ad ae af)], z, z, ⟨_, z, (Sl.frB bQ en low0)⟩⟩⟩⟩, z⟩ z ?_
        intro h8 h9 hD aZ eo
        obtain ⟨ep, cE, h⟩ := bnd h
        have et := ((bK.st au z z z).st av z z z).st aZ z z z
        refine WL.append (by decide) ty70 ty72 z (by decide) z z et eo.src cE z ?_
        intro gq ia hE cF eu
        refine wY (ya z) z (nl ?_)
        obtain ⟨gr, cG, ew⟩ := OwnSl.rlb 1009 rfl eu
        exact At.join (σ := (List api_Fld × Own × Value)) (ep, gr, gq) ⟨some1 h, (tr_ (su_ au z) (tr_ (su_ av z) (tr_ (su_ aZ z) (tr_ (su_ cF z) (su_ cG z))))), ew⟩ (.cons z (.cons z .nil))
       ·refine WC.condF' z aO (sk ?_)
        obtain ⟨gs, cH, ex⟩ := OwnSl.rlb 1009 rfl bK
        exact At.join (σ := (List api_Fld × Own × Value)) (d0, gs, gj) ⟨some1 h, (su_ cH z), ex⟩ (.cons z (.cons z .nil))
      ·rintro ⟨gt, gu, cI⟩ hF ⟨rfl, I, aP⟩
       replace h := d3
       try dsimp only at h I aP
       refine (show At _ _ _ [(1, pt q 0), (3, cI)] _ from ?_)
       refine th (sq (rg (wY (yf fo40_10 z) z (wY (yf fo38_3 z) z (wY (yf fo36_1 z) z ?_)))))
       have bR := ((aN.st r z).st D z).st I z
       refine wY (yl ty34 z z (bR.cell 15 _ z)) z ?_
       have bS := (((((((((((b8.i p z z).i c z z).i d z z).i e z z).i a z z).i l z z).i t z z).i C z z).i F z z).i r z z).i D z z).i I z z
       refine wY (Y.len ty34 z bS) z (wY (Y.gtr_i z z) z (nl (th ?_)))
       rcases cnd h with ⟨aQ, h⟩ | ⟨aQ, h⟩
       ·refine WC.condT' z aQ (rg (wY (ym z) z (wY (yf fo40_10 z) z (wY (yf fo38_3 z) z (wY (yL ty36 z z (bR.cells 14 [vi a0.Hist.Neg.Offset, (vl cc cd ce)] z) z) z ?_)))))
        obtain ⟨gw, eL, h⟩ := bnd h
        refine WL.call (vals := [ag [vi a0.Hist.Neg.Offset, (vl cc cd ce)]]) kok84 z z (c_ref31_side (A := fun _ => True) (a0 := a0.Hist.Neg) (Sl.all bS) eL) ?_
        rintro bT eM ⟨_, rfl, eN, gz⟩
        obtain ⟨cJ, gX, b4, ax⟩ := adoptE gu (fun k => 1) eN
        have eO : Sl rep_api_Fld eM (frs cJ) bT gw := Sl.adoptF gz (fun k hk => ⟨hk, z⟩) b4
        obtain ⟨o, eP, h⟩ := bnd h
        refine WL.call (vals := [vi 11, bT]) kok44 z z (c_ref31_sub (A := fun _ => True) (Sl.all eO) eP) ?_
        rintro hG bU ⟨gB, rfl, eQ, gC⟩
        obtain ⟨br, gY, b5, ay⟩ := adoptE cJ (fun k => 1) eQ
        have bW : Sl Rep.b bU (frs br) gB o.B := Sl.adoptF gC (fun k hk => ⟨hk, z⟩) b5
        have eR := h
        obtain ⟨ah, ai, aj, rfl⟩ := bW.shape
        have h := eR
        have eS : Stp [12, 1002, 1004, 1005, 1006, 1008] (Lg.O0 A) w br bU := (tr_ (su_ p z) (tr_ (su_ c z) (tr_ (su_ d z) (tr_ (su_ e z) (tr_ (su_ a z) (tr_ (su_ l z) (tr_ (su_ t z) (tr_ (su_ C z) (tr_ (su_ F z) (tr_ (su_ r z) (tr_ (su_ D z) (tr_ (su_ I z) (tr_ (su_ ax z) (su_ ay z))))))))))))))
        refine WL.buildSlice (O := br) (R := (frR rep_api_Fld w.heap.size)) (vals := [(0, ag [vi o.Num, vi o.Type_, vu o.V, (vl ah ai aj)])]) 21 [vi o.Num, vi o.Type_, vu o.V, (vl ah ai aj)] (xs := [o]) (by decide) ty70 ty72 (show 0 < rep_api_Fld.n by decide) (show 1 * rep_api_Fld.n ≤ 65536 by decide) (fe_ z) (by kernel_rfl) z ⟨[vi o.Num, vi o.Type_, vu o.V, (vl ah ai aj)], [], z, ⟨[vi o.Num], [vi o.Type_, vu o.V, (vl ah ai aj)], z, z, ⟨[vi o.Type_], [vu o.V, (vl ah ai aj)], z, z, ⟨[vu o.V], [(vl ah ai aj)], z, z, ⟨_, z, (Sl.frB bW eS low0)⟩⟩⟩⟩, z⟩ z ?_
        intro ib ic hH a1 eT
        obtain ⟨eU, cK, h⟩ := bnd h
        have eX := ((aP.st ax z z z).st ay z z z).st a1 z z z
        refine WL.append (by decide) ty70 ty72 z (by decide) z z eX eT.src cK z ?_
        intro gE ie hI cL eY
        refine wY (ya z) z (nl ?_)
        obtain ⟨gG, cM, eZ⟩ := OwnSl.rlb 1011 rfl eY
        exact At.join (σ := (List api_Fld × Own × Value)) (eU, gG, gE) ⟨some1 h, (tr_ (su_ t z) (tr_ (su_ C z) (tr_ (su_ F z) (tr_ (su_ r z) (tr_ (su_ D z) (tr_ (su_ I z) (tr_ (su_ ax z) (tr_ (su_ ay z) (tr_ (su_ a1 z) (tr_ (su_ cL z) (su_ cM z))))))))))), eZ⟩ (.cons z (.cons z .nil))
       ·refine WC.condF' z aQ (sk ?_)
        obtain ⟨gH, cN, e0⟩ := OwnSl.rlb 1011 rfl aP
        exact At.join (σ := (List api_Fld × Own × Value)) (gt, gH, cI) ⟨some1 h, (tr_ (su_ t z) (tr_ (su_ C z) (tr_ (su_ F z) (tr_ (su_ r z) (tr_ (su_ D z) (tr_ (su_ I z) (su_ cN z))))))), e0⟩ (.cons z (.cons z .nil))
     ·refine WC.condF' z aM (sk ?_)
      obtain ⟨gI, cO, e1⟩ := OwnSl.rlb 1011 rfl aK
      exact At.join (σ := (List api_Fld × Own × Value)) (gf, gI, cy) ⟨some1 h, (su_ cO z), e1⟩ (.cons z (.cons z .nil))
    ·rintro ⟨ig, cP, cQ⟩ bX ⟨rfl, J, aR⟩
     replace h := dP
     try dsimp only at h J aR
     refine (show At _ _ _ [(1, pt q 0), (3, cQ)] _ from ?_)
     refine th (sq (sq (rg (wY (yf fo40_2 z) z ?_))))
     have bY := ((a9.st a z).st l z).st J z
     refine wY (yl ty3 z z (bY.cell 2 _ z)) z (wY (Y.eql_i z z) z (nl (th ?_)))
     rcases cnd h with ⟨aS, h⟩ | ⟨aS, h⟩
     ·refine WC.condT' z aS (rg (wY (ym z) z (wY (yf fo40_9 z) z (wY (yl ty33 z z (bY.cell 9 _ z)) z (wY (yb (vals := [(0, vi 31), (1, vi 1), (2, vu a0.Im)]) (cells := [vi 31, vi 1, vu a0.Im, sn]) (fe_ z) (by kernel_rfl)) z (WL.buildSlice (O := cP) (R := (frR rep_api_Fld w.heap.size)) (vals := [(0, ag [vi 31, vi 1, vu a0.Im, sn])]) 22 [vi 31, vi 1, vu a0.Im, sn] (xs := [(api_Fld.mk 31 1 a0.Im [])]) (by decide) ty70 ty72 (show 0 < rep_api_Fld.n by decide) (show 1 * rep_api_Fld.n ≤ 65536 by decide) (fe_ z) (by kernel_rfl) z ⟨[vi 31, vi 1, vu a0.Im, sn], [], z, ⟨[vi 31], [vi 1, vu a0.Im, sn], z, z, ⟨[vi 1], [vu a0.Im, sn], z, z, ⟨[vu a0.Im], [sn], z, z, ⟨_, z, (Or.inl ⟨z, z⟩)⟩⟩⟩⟩, z⟩ z ?_))))))
      intro ih ii hJ az e6
      obtain ⟨hK, cR, h⟩ := bnd h
      have e7 := aR.st az z z z
      refine WL.append (by decide) ty70 ty72 z (by decide) z z e7 e6.src cR z ?_
      intro gJ gK bZ a2 e8
      refine wY (ya z) z (nl (th (sq (rg (wY (ym z) z (wY (ya z) z (nl (th (rt ?_)))))))))
      obtain rfl := some1 h
      have e9 : Stp [12, 1002, 1004, 1005, 1006, 1008, 1009, 1011] (Lg.O0 A) w gK bZ := (tr_ (su_ p z) (tr_ (su_ c z) (tr_ (su_ d z) (tr_ (su_ e z) (tr_ (su_ a z) (tr_ (su_ l z) (tr_ (su_ J z) (tr_ (su_ az z) (su_ a2 z)))))))))
      obtain ⟨gL, cS, fa⟩ := OwnSl.giveB rfl e8 e9 low0
      have fc : Stp [12, 1002, 1004, 1005, 1006, 1008, 1009, 1011] (Lg.O0 A) w gL bZ := (tr_ (su_ p z) (tr_ (su_ c z) (tr_ (su_ d z) (tr_ (su_ e z) (tr_ (su_ a z) (tr_ (su_ l z) (tr_ (su_ J z) (tr_ (su_ az z) (tr_ (su_ a2 z) (su_ cS z))))))))))
      exact At.res (.inl z) z (.tmp z .nil) ⟨gJ, z, (se_ fc z z), (Sl.outFb fa)⟩
     ·refine WC.condF' z aS (sk (th (sq (rg (wY (ym z) z (wY (ya z) z (nl (th (rt ?_)))))))))
      obtain rfl := some1 h
      have fd : Stp [12, 1002, 1004, 1005, 1006, 1008, 1009] (Lg.O0 A) w cP bX := (tr_ (su_ p z) (tr_ (su_ c z) (tr_ (su_ d z) (tr_ (su_ e z) (tr_ (su_ a z) (tr_ (su_ l z) (su_ J z)))))))
      obtain ⟨gM, cT, fe⟩ := OwnSl.giveB rfl aR fd low0
      have ff : Stp [12, 1002, 1004, 1005, 1006, 1008, 1009, 1011] (Lg.O0 A) w gM bX := (tr_ (su_ p z) (tr_ (su_ c z) (tr_ (su_ d z) (tr_ (su_ e z) (tr_ (su_ a z) (tr_ (su_ l z) (tr_ (su_ J z) (su_ cT z))))))))
      exact At.res (.inl z) z (.tmp z .nil) ⟨cQ, z, (se_ ff z z), (Sl.outFb fe)⟩
theorem c_ref31_field {a0 : Int} {w : World} {r0 : Int} (h : ref31_field a0 = some r0) : Rets Tryz.prog 46 [vi a0] w (fun v w' => v = vi r0 ∧ Ext w w') := by
 unfold ref31_field at h
 refine Rets.enter Tryz.func46 z z ?_
 refine (show WC _ _ _ _ [(0, vi a0)] _ from ?_)
 refine sq (rg (wY (ya z) z (nl (th (sq (rg (WL.buildSlice (O := (Lg.O0 (fun _ => False))) (R := Rep.i) (vals := [(0, vi 0), (1, vi 7), (2, vi 7), (3, vi 5), (4, vi 10), (5, vi 30)]) 11 [vi 0, vi 7, vi 7, vi 5, vi 10, vi 30] (xs := [0, 7, 7, 5, 10, 30]) (by decide) ty113 ty3 (by decide) (by decide) (fe_ z) (by kernel_rfl) z ⟨[vi 0], [vi 7, vi 7, vi 5, vi 10, vi 30], z, z, ⟨[vi 7], [vi 7, vi 5, vi 10, vi 30], z, z, ⟨[vi 7], [vi 5, vi 10, vi 30], z, z, ⟨[vi 5], [vi 10, vi 30], z, z, ⟨[vi 10], [vi 30], z, z, ⟨[vi 30], [], z, z, z⟩⟩⟩⟩⟩⟩ z ?_)))))))
 intro F t m e c
 refine wY (ya z) z (nl (th (sq (rg (wY (ym z) z (wY (ym z) z ?_))))))
 obtain ⟨C, o, h⟩ := bnd h
 obtain ⟨G, D, E, d, p, q, a, j⟩ := OwnSl.at c o
 obtain rfl := j
 replace a : CellsAt _ _ _ [vi C] := a
 have l := CAt.own c d a
 refine wY (Y.indexAddr ty113 ty3 z d z p q) z (wY (yl ty3 z z l.at_) z (wY (ya z) z (nl (th (rt ?_)))))
 obtain rfl := some1 h
 have r : Stp [] (Lg.O0 (fun _ => False)) w t m := (su_ e z)
 exact At.res (.inl z) z (.tmp z .nil) ⟨z, (se_ r z z)⟩
theorem c_ref31_Encode {A : Nat → Prop} {a0 : List api_Point} {v0 : Value} {w : World} (hs0 : Sl rep_api_Point w A v0 a0) {r0 : List UInt8} {r1 : Int} (h : ref31_Encode a0 = some (r0, r1)) : Rets Tryz.prog 20 [v0] w (fun v w' => ∃ (u0 : Value), v = tp [u0, vi r1] ∧ Ext w w' ∧ Sl Rep.b w' (fun k => w.heap.size ≤ k) u0 r0) := by
 unfold ref31_Encode at h
 refine Rets.enter Tryz.func20 z z ?_
 have fu : Sl rep_api_Point w (imm (Lg.O0 A)) v0 a0 := (Sl.start hs0)
 refine (show WC _ _ _ _ [(0, v0)] _ from ?_)
 refine sq (rg (wY (ya z) z (wY (ya z) z (nl (th (sq (rg (wY (ya z) z (nl ?_)))))))))
 refine th (sq (sq (rg (wY (ya z) z (nl (th ?_))))))
 obtain ⟨g6, h, a6⟩ := flow1 h
 refine WC.join (σ := (List api_Fld × Own × Value)) (fun x w' => g6 = .go x.1 ∧ Stp [11, 12, 1001, 1002, 1004, 1005, 1006] (Lg.O0 A) w x.2.1 w' ∧ OwnSl 1008 (frR rep_api_Fld w.heap.size) 72 x.2.1 w' x.2.2 x.1) (fun x => [(4, x.2.2)]) ?_ ?_
 ·refine WC.block ?_
  obtain ⟨fm, h, a7⟩ := flow1 h
  obtain ⟨fn, h⟩ := loop_some h
  refine WC.joinB 0 (σ := (List api_Fld × Own × Value)) (fun x w' => fm = .go x.1 ∧ Stp [11, 12, 1001, 1002, 1004, 1005] (Lg.O0 A) w x.2.1 w' ∧ OwnSl 1006 (frR rep_api_Fld w.heap.size) 72 x.2.1 w' x.2.2 x.1) (fun x => [(4, x.2.2)]) ?_ ?_
  ·refine WC.loop (σ := (List api_Fld × Int × Own × Value)) (fun x k w' => loopN k (ref31_Encode_lp1 a0) (x.1, x.2.1) = some fm ∧ Stp [11, 12, 1001, 1002, 1004, 1005] (Lg.O0 A) w x.2.2.1 w' ∧ OwnSl 1005 (frR rep_api_Fld w.heap.size) 72 x.2.2.1 w' x.2.2.2 x.1) (fun x => [(0, v0), (4, x.2.2.2), (5, vi x.2.1)]) ([], 0, (Lg.O0 A), sn) fn (.cons z (.cons z (.cons z .nil))) ⟨h, (sr_ _ _ _), (OwnSl.nil 1005 (frR rep_api_Fld w.heap.size) 72)⟩ ?_
   rintro ⟨bQ, G, fo, E⟩ fn fv ⟨h, C, a8⟩
   obtain ⟨g7, ib, rfl, h, aK⟩ := rnd1 h
   unfold ref31_Encode_lp1 at h
   try dsimp only at h C a8
   refine (show WC _ _ _ _ [(0, v0), (4, E), (5, vi G)] _ from ?_)
   refine sq (sq (rg (wY (ym z) z (wY (ym z) z ?_))))
   have b2 := fu.i C z z
   refine wY (Y.len ty22 z b2) z (wY (Y.lss_i z z) z (nl (th ?_)))
   rcases cnd h with ⟨a9, h⟩ | ⟨a9, h⟩
   ·refine WC.condT' z a9 (sk (th (sq ?_)))
    obtain ⟨g8, h, ba⟩ := flow1 h
    refine WC.join (σ := (List api_Fld × Own × Value)) (fun x w' => g8 = .go x.1 ∧ Stp [11, 12, 1001, 1002, 1005] fo fv x.2.1 w' ∧ OwnSl 1004 (frR rep_api_Fld w.heap.size) 72 x.2.1 w' x.2.2 x.1) (fun x => [(0, v0), (4, x.2.2), (5, vi G)]) ?_ ?_
    ·refine WC.block (sq (rg (wY (ym z) z (wY (ym z) z ?_))))
     obtain ⟨F, fw, h⟩ := bnd h
     obtain ⟨ic, hf, hg, hM, fx, fy, fz, bb, cV, fA⟩ := Sl.at2 b2 fw
     obtain ⟨_, _, rfl, rfl, ⟨_, _, rfl, ⟨g9, rfl, fB⟩, ⟨_, _, rfl, rfl, ⟨_, _, rfl, rfl, ⟨_, _, rfl, rfl, ⟨_, _, rfl, rfl, ⟨_, _, rfl, rfl, ⟨_, _, rfl, rfl, ⟨_, _, rfl, rfl, ⟨_, _, rfl, rfl, ⟨_, _, rfl, ⟨_, _, rfl, rfl, ⟨_, _, rfl, rfl, ⟨_, _, rfl, ⟨_, _, rfl, rfl, ⟨ha, rfl, fC⟩⟩, ⟨_, _, rfl, rfl, ⟨hc, rfl, fD⟩⟩⟩⟩⟩, rfl⟩⟩⟩⟩⟩⟩⟩⟩⟩⟩⟩ := cV
     replace bb : CellsAt _ _ _ (cp F g9 ha hc) := bb
     have cW := CAt.imm bb fA
     refine wY (Y.indexAddr ty22 ty40 z fx z fy fz) z (wY (yL ty40 z z cW.at_ z) z (WL.alloc (O := fo) 11 [vs [], sn, vi 0, vi 0, vB false, vi 0, vi 0, vi 0, vu 0, vu 0, vi 0, vu 0, vi 0, sn, vi 0, sn, vi 0] ty40 z z ?_))
     intro az hd hN q fF
     have b3 := fB.i q z z
     have fG := h
     obtain ⟨aA, aC, aD, rfl⟩ := b3.shape
     have h := fG
     have b4 := fC.i q z z
     have fH := h
     obtain ⟨aE, aF, aG, rfl⟩ := b4.shape
     have h := fH
     have b5 := fD.i q z z
     have fI := h
     obtain ⟨aH, aI, aJ, rfl⟩ := b5.shape
     have h := fI
     refine WL.store (v := ag (cp F (vl aA aC aD) (vl aE aF aG) (vl aH aI aJ))) (cells' := (cp F (vl aA aC aD) (vl aE aF aG) (vl aH aI aJ))) ty40 z z fF z (le_ z) z z ?_
     intro hO r b6
     refine nl (th (sq (sq (rg (wY (yL ty40 z z (b6.cells 0 (cp F (vl aA aC aD) (vl aE aF aG) (vl aH aI aJ)) z) z) z ?_)))))
     have b7 := b3.i r z z
     have b8 := b4.i r z z
     have b9 := b5.i r z z
     obtain ⟨ie, fJ, h⟩ := bnd h
     refine WL.call (vals := [ag (cp F (vl aA aC aD) (vl aE aF aG) (vl aH aI aJ))]) kok24 z z (c_ref12_Check (A := fun _ => True) (a0 := F) (Sl.all b7) (Sl.all b8) (Sl.all b9) fJ) ?_
     rintro hP ca ⟨rfl, fK⟩
     obtain ⟨cb, he, gQ, a⟩ := adoptE hd (fun k => 1) fK
     refine wY (ya z) z (nl (th (sq (rg (wY (ym z) z (wY (Y.neq_i z z) z (nl (th ?_))))))))
     rcases cnd h with ⟨aL, h⟩ | ⟨aL, h⟩
     ·refine WC.condT' z aL (sq (rg (wY (ym z) z (wY (ya z) z (wY (ya z) z (nl (th (rt (At.thenR ?_)))))))))
      refine At.inBlockR ?_
      have h := outs1 h ba
      refine At.joinR (At.thenR (At.loopR ?_))
      have h := outr1 h aK a7
      refine At.joinBR (At.inBlockR ?_)
      have h := outs1 h a6
      refine At.joinR (At.thenR ?_)
      obtain ⟨rfl, rfl⟩ := tup2 h
      have cX : Stp [11, 12, 1001, 1002, 1004, 1005] (Lg.O0 A) w cb ca := (tr_ (su_ C z) (tr_ (su_ q z) (tr_ (su_ r z) (su_ a z))))
      exact At.res (.inl z) z (.tmp z (.tmp z .nil)) ⟨sn, z, (se_ cX z z), (Or.inl ⟨z, z⟩)⟩
     ·refine WC.condF' z aL (sk (th (sq (sq (rg (wY (yf fo40_11 z) z ?_))))))
      have I := b6.st a z
      refine wY (yl ty3 z z (I.cell 16 _ z)) z (wY (Y.neq_i z z) z (nl (th ?_)))
      rcases cnd h with ⟨aM, h⟩ | ⟨aM, h⟩
      ·refine WC.condT' z aM (sq (rg (wY (ya z) z (wY (ya z) z (nl (th (rt (At.thenR (At.inBlockR ?_)))))))))
       have h := outs1 h ba
       refine At.joinR (At.thenR (At.loopR ?_))
       have h := outr1 h aK a7
       refine At.joinBR (At.inBlockR ?_)
       have h := outs1 h a6
       refine At.joinR (At.thenR ?_)
       obtain ⟨rfl, rfl⟩ := tup2 h
       have cY : Stp [11, 12, 1001, 1002, 1004, 1005] (Lg.O0 A) w cb ca := (tr_ (su_ C z) (tr_ (su_ q z) (tr_ (su_ r z) (su_ a z))))
       exact At.res (.inl z) z (.tmp z (.tmp z .nil)) ⟨sn, z, (se_ cY z z), (Or.inl ⟨z, z⟩)⟩
      ·refine WC.condF' z aM (sk (th (sq (rg (wY (yL ty40 z z (I.cells 0 (cp F (vl aA aC aD) (vl aE aF aG) (vl aH aI aJ)) z) z) z ?_)))))
       have cZ := b7.i a z z
       have c0 := b8.i a z z
       have c1 := b9.i a z z
       obtain ⟨fL, c2, h⟩ := bnd h
       refine WL.call (vals := [ag (cp F (vl aA aC aD) (vl aE aF aG) (vl aH aI aJ))]) kok45 z z (c_ref31_fields (A := fun _ => True) (a0 := F) (Sl.all cZ) (Sl.all c0) (Sl.all c1) c2) ?_
       rintro bs c3 ⟨_, rfl, c4, fN⟩
       obtain ⟨cc, gR, bR, d⟩ := adoptE cb (fun k => 1) c4
       have c5 : Sl rep_api_Fld c3 (frs cc) bs fL := Sl.adoptF fN (fun k hk => ⟨hk, z⟩) bR
       obtain ⟨c, c6, h⟩ := bnd h
       refine WL.call (vals := [vi 1, bs]) kok44 z z (c_ref31_sub (A := fun _ => True) (Sl.all c5) c6) ?_
       rintro hh bt ⟨fO, rfl, c7, fP⟩
       obtain ⟨bc, gU, bS, e⟩ := adoptE cc (fun k => 1) c7
       have bu : Sl Rep.b bt (frs bc) fO c.B := Sl.adoptF fP (fun k hk => ⟨hk, z⟩) bS
       have c8 := h
       obtain ⟨X, Z, aa, rfl⟩ := bu.shape
       have h := c8
       have c9 : Stp [11, 12, 1001, 1002, 1004, 1005] (Lg.O0 A) w bc bt := (tr_ (su_ C z) (tr_ (su_ q z) (tr_ (su_ r z) (tr_ (su_ a z) (tr_ (su_ d z) (su_ e z))))))
       refine WL.buildSlice (O := bc) (R := (frR rep_api_Fld w.heap.size)) (vals := [(0, ag [vi c.Num, vi c.Type_, vu c.V, (vl X Z aa)])]) 12 [vi c.Num, vi c.Type_, vu c.V, (vl X Z aa)] (xs := [c]) (by decide) ty70 ty72 (show 0 < rep_api_Fld.n by decide) (show 1 * rep_api_Fld.n ≤ 65536 by decide) (fe_ z) (by kernel_rfl) z ⟨[vi c.Num, vi c.Type_, vu c.V, (vl X Z aa)], [], z, ⟨[vi c.Num], [vi c.Type_, vu c.V, (vl X Z aa)], z, z, ⟨[vi c.Type_], [vu c.V, (vl X Z aa)], z, z, ⟨[vu c.V], [(vl X Z aa)], z, z, ⟨_, z, (Sl.frB bu c9 low0)⟩⟩⟩⟩, z⟩ z ?_
       intro fQ cd da m bw
       refine wY (ya z) z (nl (th (sq ?_)))
       obtain ⟨fR, h, db⟩ := bnd h
       refine WC.join (σ := (List api_Fld × Own × Value)) (fun x w' => x.1 = fR ∧ Stp [12] cd da x.2.1 w' ∧ OwnSl 1001 (frR rep_api_Fld w.heap.size) 72 x.2.1 w' x.2.2 x.1) (fun x => [(0, v0), (4, E), (5, vi G), (6, pt az 0), (8, x.2.2)]) ?_ ?_
       ·refine sq (rg (wY (yf fo40_3 z) z ?_))
        have de := ((I.st d z).st e z).st m z
        refine wY (yl ty3 z z (de.cell 3 _ z)) z (wY (Y.eql_i z z) z (nl (th ?_)))
        rcases cnd h with ⟨aN, h⟩ | ⟨aN, h⟩
        ·refine WC.condT' z aN (rg (wY (ym z) z (wY (yb (vals := [(0, vi 2), (2, vu 2)]) (cells := [vi 2, vi 0, vu 2, sn]) (fe_ z) (by kernel_rfl)) z (WL.buildSlice (O := cd) (R := (frR rep_api_Fld w.heap.size)) (vals := [(0, ag [vi 2, vi 0, vu 2, sn])]) 13 [vi 2, vi 0, vu 2, sn] (xs := [(api_Fld.mk 2 0 2 [])]) (by decide) ty70 ty72 (show 0 < rep_api_Fld.n by decide) (show 1 * rep_api_Fld.n ≤ 65536 by decide) (fe_ z) (by kernel_rfl) z ⟨[vi 2, vi 0, vu 2, sn], [], z, ⟨[vi 2], [vi 0, vu 2, sn], z, z, ⟨[vi 0], [vu 2, sn], z, z, ⟨[vu 2], [sn], z, z, ⟨_, z, (Or.inl ⟨z, z⟩)⟩⟩⟩⟩, z⟩ z ?_))))
         intro hQ hR hi aY df
         obtain ⟨dg, ce, h⟩ := bnd h
         have dh := bw.st aY z z z
         refine WL.append (by decide) ty70 ty72 z (by decide) z z dh df.src ce z ?_
         intro fT hS hj cf di
         refine wY (ya z) z (nl ?_)
         obtain ⟨fU, cg, dj⟩ := OwnSl.rlb 1001 rfl di
         exact At.join (σ := (List api_Fld × Own × Value)) (dg, fU, fT) ⟨some1 h, (tr_ (su_ aY z) (tr_ (su_ cf z) (su_ cg z))), dj⟩ (.cons z (.cons z (.cons z (.cons z (.cons z .nil)))))
        ·refine WC.condF' z aN (sk ?_)
         obtain ⟨fV, ch, dk⟩ := OwnSl.rlb 1001 rfl bw
         exact At.join (σ := (List api_Fld × Own × Value)) ([c], fV, fQ) ⟨some1 h, (su_ ch z), dk⟩ (.cons z (.cons z (.cons z (.cons z (.cons z .nil)))))
       ·rintro ⟨fY, ci, cj⟩ dl ⟨rfl, o, aO⟩
        replace h := db
        try dsimp only at h o aO
        refine (show At _ _ _ [(0, v0), (4, E), (5, vi G), (6, pt az 0), (8, cj)] _ from ?_)
        refine th (sq ?_)
        obtain ⟨f0, h, dm⟩ := bnd h
        refine WC.join (σ := (List api_Fld × Own × Value)) (fun x w' => x.1 = f0 ∧ Stp [1001] ci dl x.2.1 w' ∧ OwnSl 1002 (frR rep_api_Fld w.heap.size) 72 x.2.1 w' x.2.2 x.1) (fun x => [(0, v0), (4, E), (5, vi G), (6, pt az 0), (8, x.2.2)]) ?_ ?_
        ·refine sq (rg (wY (yf fo40_3 z) z ?_))
         have ds := (((I.st d z).st e z).st m z).st o z
         refine wY (yl ty3 z z (ds.cell 3 _ z)) z (wY (Y.eql_i z z) z (nl (th ?_)))
         rcases cnd h with ⟨aP, h⟩ | ⟨aP, h⟩
         ·refine WC.condT' z aP (rg (wY (ym z) z (wY (yb (vals := [(0, vi 2), (2, vu 1)]) (cells := [vi 2, vi 0, vu 1, sn]) (fe_ z) (by kernel_rfl)) z (WL.buildSlice (O := ci) (R := (frR rep_api_Fld w.heap.size)) (vals := [(0, ag [vi 2, vi 0, vu 1, sn])]) 14 [vi 2, vi 0, vu 1, sn] (xs := [(api_Fld.mk 2 0 1 [])]) (by decide) ty70 ty72 (show 0 < rep_api_Fld.n by decide) (show 1 * rep_api_Fld.n ≤ 65536 by decide) (fe_ z) (by kernel_rfl) z ⟨[vi 2, vi 0, vu 1, sn], [], z, ⟨[vi 2], [vi 0, vu 1, sn], z, z, ⟨[vi 0], [vu 1, sn], z, z, ⟨[vu 1], [sn], z, z, ⟨_, z, (Or.inl ⟨z, z⟩)⟩⟩⟩⟩, z⟩ z ?_))))
          intro hT hU hm aZ dt
          obtain ⟨du, ck, h⟩ := bnd h
          have dw := aO.st aZ z z z
          refine WL.append (by decide) ty70 ty72 z (by decide) z z dw dt.src ck z ?_
          intro f1 hV hn cl dx
          refine wY (ya z) z (nl ?_)
          obtain ⟨f2, cm, dy⟩ := OwnSl.rlb 1002 rfl dx
          exact At.join (σ := (List api_Fld × Own × Value)) (du, f2, f1) ⟨some1 h, (tr_ (su_ aZ z) (tr_ (su_ cl z) (su_ cm z))), dy⟩ (.cons z (.cons z (.cons z (.cons z (.cons z .nil)))))
         ·refine WC.condF' z aP (sk ?_)
          obtain ⟨f3, cn, dz⟩ := OwnSl.rlb 1002 rfl aO
          exact At.join (σ := (List api_Fld × Own × Value)) (fY, f3, cj) ⟨some1 h, (su_ cn z), dz⟩ (.cons z (.cons z (.cons z (.cons z (.cons z .nil)))))
        ·rintro ⟨f4, co, cq⟩ dA ⟨rfl, t, aQ⟩
         replace h := dm
         try dsimp only at h t aQ
         refine (show At _ _ _ [(0, v0), (4, E), (5, vi G), (6, pt az 0), (8, cq)] _ from ?_)
         refine th (sq ?_)
         obtain ⟨f5, h, dB⟩ := bnd h
         refine WC.join (σ := (List api_Fld × Own × Value)) (fun x w' => x.1 = f5 ∧ Stp [1002] co dA x.2.1 w' ∧ OwnSl 1003 (frR rep_api_Fld w.heap.size) 72 x.2.1 w' x.2.2 x.1) (fun x => [(0, v0), (4, E), (5, vi G), (6, pt az 0), (8, x.2.2)]) ?_ ?_
         ·refine sq (rg (wY (yf fo40_4 z) z ?_))
          have dG := ((((I.st d z).st e z).st m z).st o z).st t z
          refine wY (yl ty4 z z (dG.cell 4 _ z)) z (nl (th ?_))
          rcases cnd h with ⟨aR, h⟩ | ⟨aR, h⟩
          ·refine WC.condT' z aR (rg (wY (ym z) z (wY (yb (vals := [(0, vi 3), (2, vu 1)]) (cells := [vi 3, vi 0, vu 1, sn]) (fe_ z) (by kernel_rfl)) z (WL.buildSlice (O := co) (R := (frR rep_api_Fld w.heap.size)) (vals := [(0, ag [vi 3, vi 0, vu 1, sn])]) 15 [vi 3, vi 0, vu 1, sn] (xs := [(api_Fld.mk 3 0 1 [])]) (by decide) ty70 ty72 (show 0 < rep_api_Fld.n by decide) (show 1 * rep_api_Fld.n ≤ 65536 by decide) (fe_ z) (by kernel_rfl) z ⟨[vi 3, vi 0, vu 1, sn], [], z, ⟨[vi 3], [vi 0, vu 1, sn], z, z, ⟨[vi 0], [vu 1, sn], z, z, ⟨[vu 1], [sn], z, z, ⟨_, z, (Or.inl ⟨z, z⟩)⟩⟩⟩⟩, z⟩ z ?_))))
           intro hW hX ho a1 dH
           obtain ⟨dI, cr, h⟩ := bnd h
           have dJ := aQ.st a1 z z z
           refine WL.append (by decide) ty70 ty72 z (by decide) z z dJ dH.src cr z ?_
           intro f6 hY hp cs dK
           refine wY (ya z) z (nl ?_)
           obtain ⟨f7, ct, dL⟩ := OwnSl.rlb 1003 rfl dK
           exact At.join (σ := (List api_Fld × Own × Value)) (dI, f7, f6) ⟨some1 h, (tr_ (su_ a1 z) (tr_ (su_ cs z) (su_ ct z))), dL⟩ (.cons z (.cons z (.cons z (.cons z (.cons z .nil)))))
          ·refine WC.condF' z aR (sk ?_)
           obtain ⟨f8, cu, dM⟩ := OwnSl.rlb 1003 rfl aQ
           exact At.join (σ := (List api_Fld × Own × Value)) (f4, f8, cq) ⟨some1 h, (su_ cu z), dM⟩ (.cons z (.cons z (.cons z (.cons z (.cons z .nil)))))
         ·rintro ⟨hZ, aS, aT⟩ hr ⟨rfl, D, al⟩
          replace h := dB
          try dsimp only at h D al
          refine (show At _ _ _ [(0, v0), (4, E), (5, vi G), (6, pt az 0), (8, aT)] _ from ?_)
          refine th (WC.drawH [1005] [0, 1, 2, 3, 4, 5, 6, 7, 8, 9, 10, 11, 12, 13, 14] aS 15 fmix z (by kernel_rfl) ?_)
          intro dN p
          refine WD.y 0 z (by kernel_rfl) (fun _ _ _ => ym z) z (WD.y 1 z (by kernel_rfl) (fun _ _ _ => yf fo40_0 z) z (WD.y 2 z (by kernel_rfl) (fun hs h0 cv => have dO := I.st d z; have dP := dO.st e z; have dQ := dP.st m z; have dR := dQ.st o z; have dS := dR.st t z; have dT := dS.st D z; have dU := dT.st p z; have dV := dU.st cv z; yl ty9 z z (dV.cell 0 _ z)) z (WD.y 5 z (by kernel_rfl) (fun _ _ _ => yf fo40_2 z) z (WD.y 6 z (by kernel_rfl) (fun ht h1 cw => have dW := I.st d z; have dX := dW.st e z; have dY := dX.st m z; have dZ := dY.st o z; have d0 := dZ.st t z; have d1 := d0.st D z; have d2 := d1.st p z; have d3 := d2.st cw z; yl ty3 z z (d3.cell 2 _ z)) z (WD.y 8 z (by kernel_rfl) (fun _ _ _ => ym z) z ?_)))))
          obtain ⟨f9, h, d4⟩ := bnd h
          refine WD.join (σ := (List UInt8 × Int × Int × UInt64 × List UInt8 × Own × Value × Value)) (f' := 5) [9, 8, 7, 6, 5, 4, 3, 2, 1, 0] (fun x O' w' => (x.1, x.2.1, x.2.2.1, x.2.2.2.1, x.2.2.2.2.1) = f9 ∧ Stp [] aS dN x.2.2.2.2.2.1 w' ∧ Sl Rep.b w' (frs x.2.2.2.2.2.1) x.2.2.2.2.2.2.1 x.1 ∧ Sl Rep.b w' (frs x.2.2.2.2.2.1) x.2.2.2.2.2.2.2 x.2.2.2.2.1 ∧ x.2.2.2.2.2.1 = O') (fun x => [(0, v0), (4, E), (5, vi G), (51, E), (55, ag [vi 1, vi 2, vu 0, x.2.2.2.2.2.2.1]), (60, ag [vi x.2.1, vi x.2.2.1, vu x.2.2.2.1, x.2.2.2.2.2.2.2])]) (fun bx => ?_) ?_
          ·refine WD.heavy2 3 7 z z (by kernel_rfl) ?_ ?_
           ·refine WL.s2b (O := aS) ty9 ty51 ty5 z z ?_
            intro h2 ga hu an bz
            refine nl (At.dq (su_ an z) ?_)
            have d5 := h
            obtain ⟨bd, bf, bg, rfl⟩ := bz.shape
            have h := d5
            refine WD.y 4 z (by kernel_rfl) (fun _ _ _ => yb (vals := [(0, vi 1), (1, vi 2), (3, (vl bd bf bg))]) (cells := [vi 1, vi 2, vu 0, (vl bd bf bg)]) (fe_ z) (by kernel_rfl)) z (WD.heavy 7 z (by kernel_rfl) ?_)
            obtain ⟨gb, d6, h⟩ := bnd h
            refine WL.call (vals := [vi F.Kind]) kok46 z z (c_ref31_field d6) ?_
            rintro hv hw ⟨rfl, d7⟩
            obtain ⟨gc, gV, gW, S⟩ := adoptE ga (fun k => 1) d7
            refine nl (At.dq (su_ S z) (WD.heavy 9 z (by kernel_rfl) ?_))
            have ea := ((al.st p z z z).st an z z z).st S z z z
            obtain ⟨ao, eb, h⟩ := bnd h
            refine WL.call (vals := [vi gb, aT]) kok44 z z (c_ref31_sub (A := fun _ => True) (Sl.unfr ea.src.sl) eb) ?_
            rintro hx ec ⟨cx, rfl, ed, gd⟩
            obtain ⟨cy, gX, bT, ap⟩ := adoptE gc (fun k => 1) ed
            have ee : Sl Rep.b ec (frs cy) cx ao.B := Sl.adoptF gd (fun k hk => ⟨hk, z⟩) bT
            refine nl (At.dq (su_ ap z) ?_)
            have eg := (bz.f S z).f ap z
            refine WD.perm _ [9, 8, 7, 6, 5, 4, 3, 2, 1, 0] (by kernel_rfl) ?_
            exact bx (F.Name, ao.Num, ao.Type_, ao.V, ao.B, cy, (vl bd bf bg), cx) _ _ _ ⟨some1 h, (tr_ (su_ an z) (tr_ (su_ S z) (su_ ap z))), eg, ee, z⟩ (.cons z (.cons z (.cons z (.cons z (.cons z (.cons z .nil))))))
           ·try simp only [Option.bind_assoc] at h
            try simp only [Option.bind_some] at h
            obtain ⟨cz, eh, h⟩ := bnd h
            refine WL.call (vals := [vi F.Kind]) kok46 z z (c_ref31_field eh) ?_
            rintro hy ei ⟨rfl, ej⟩
            obtain ⟨bh, gY, gZ, T⟩ := adoptE aS (fun k => 1) ej
            refine nl (At.dq (su_ T z) ?_)
            (first | have hq := bnd (α := (List UInt8 × Int × Int × UInt64 × List UInt8)) h | have hq := bndS h); obtain ⟨ge, h, ek⟩ := hq
            refine WD.join (σ := (List UInt8 × Int × Int × UInt64 × List UInt8 × Own × Value × Value)) (f' := 5) [9, 8, 7, 6, 5, 4, 3, 2, 1, 0] (fun x O' w' => (x.1, x.2.1, x.2.2.1, x.2.2.2.1, x.2.2.2.2.1) = ge ∧ Stp [] bh ei x.2.2.2.2.2.1 w' ∧ Sl Rep.b w' (frs x.2.2.2.2.2.1) x.2.2.2.2.2.2.1 x.1 ∧ Sl Rep.b w' (frs x.2.2.2.2.2.1) x.2.2.2.2.2.2.2 x.2.2.2.2.1 ∧ x.2.2.2.2.2.1 = O') (fun x => [(0, v0), (4, E), (5, vi G), (51, E), (55, ag [vi 1, vi 2, vu 0, x.2.2.2.2.2.2.1]), (60, ag [vi x.2.1, vi x.2.2.1, vu x.2.2.2.1, x.2.2.2.2.2.2.2])]) (fun bA => ?_) ?_
            ·refine WD.heavy2 3 9 z z (by kernel_rfl) ?_ ?_
             ·refine WL.s2b (O := bh) ty9 ty51 ty5 z z ?_
              intro h3 gf hz aq bB
              refine nl (At.dq (su_ aq z) ?_)
              have em := h
              obtain ⟨bi, bj, bk, rfl⟩ := bB.shape
              have h := em
              refine WD.y 4 z (by kernel_rfl) (fun _ _ _ => yb (vals := [(0, vi 1), (1, vi 2), (3, (vl bi bj bk))]) (cells := [vi 1, vi 2, vu 0, (vl bi bj bk)]) (fe_ z) (by kernel_rfl)) z (WD.heavy 9 z (by kernel_rfl) ?_)
              have ep := ((al.st p z z z).st T z z z).st aq z z z
              obtain ⟨ar, er, h⟩ := bnd h
              refine WL.call (vals := [vi cz, aT]) kok44 z z (c_ref31_sub (A := fun _ => True) (Sl.unfr ep.src.sl) er) ?_
              rintro hA es ⟨cA, rfl, et, gg⟩
              obtain ⟨cC, g0, bU, au⟩ := adoptE gf (fun k => 1) et
              have eu : Sl Rep.b es (frs cC) cA ar.B := Sl.adoptF gg (fun k hk => ⟨hk, z⟩) bU
              refine nl (At.dq (su_ au z) ?_)
              have ew := bB.f au z
              refine WD.perm _ [9, 8, 7, 6, 5, 4, 3, 2, 1, 0] (by kernel_rfl) ?_
              exact bA (F.Name, ar.Num, ar.Type_, ar.V, ar.B, cC, (vl bi bj bk), cA) _ _ _ ⟨some1 h, (tr_ (su_ aq z) (su_ au z)), ew, eu, z⟩ (.cons z (.cons z (.cons z (.cons z (.cons z (.cons z .nil))))))
             ·try simp only [Option.bind_assoc] at h
              try simp only [Option.bind_some] at h
              have ey := (al.st p z z z).st T z z z
              obtain ⟨av, ez, h⟩ := bnd h
              refine WL.call (vals := [vi cz, aT]) kok44 z z (c_ref31_sub (A := fun _ => True) (Sl.unfr ey.src.sl) ez) ?_
              rintro hC eA ⟨cD, rfl, eB, gh⟩
              obtain ⟨cE, g1, bW, a2⟩ := adoptE bh (fun k => 1) eB
              have eC : Sl Rep.b eA (frs cE) cD av.B := Sl.adoptF gh (fun k hk => ⟨hk, z⟩) bW
              refine nl (At.dq (su_ a2 z) (WD.heavy 3 z (by kernel_rfl) (WL.s2b (O := cE) ty9 ty51 ty5 z z ?_)))
              intro h4 gi hD ax bC
              refine nl (At.dq (su_ ax z) ?_)
              have eD := h
              obtain ⟨bl, bm, bn, rfl⟩ := bC.shape
              have h := eD
              refine WD.y 4 z (by kernel_rfl) (fun _ _ _ => yb (vals := [(0, vi 1), (1, vi 2), (3, (vl bl bm bn))]) (cells := [vi 1, vi 2, vu 0, (vl bl bm bn)]) (fe_ z) (by kernel_rfl)) z ?_
              have eE := eC.f ax z
              refine WD.perm _ [9, 8, 7, 6, 5, 4, 3, 2, 1, 0] (by kernel_rfl) ?_
              exact bA (F.Name, av.Num, av.Type_, av.V, av.B, gi, (vl bl bm bn), cD) _ _ _ ⟨some1 h, (tr_ (su_ a2 z) (su_ ax z)), bC, eE, z⟩ (.cons z (.cons z (.cons z (.cons z (.cons z (.cons z .nil))))))
            ·rintro ⟨gj, cF, cG, cH, gk, gl, cI, cJ⟩ _ hE ⟨rfl, a3, bD, bE, rfl⟩
             replace h := ek
             try dsimp only at h a3 bD bE
             refine (show WD _ _ _ _ _ _ _ _ [(0, v0), (4, E), (5, vi G), (51, E), (55, ag [vi 1, vi 2, vu 0, cI]), (60, ag [vi cF, vi cG, vu cH, cJ])] _ _ from ?_)
             refine WD.perm _ [9, 8, 7, 6, 5, 4, 3, 2, 1, 0] (by kernel_rfl) ?_
             exact bx (gj, cF, cG, cH, gk, gl, cI, cJ) _ _ _ ⟨some1 h, (tr_ (su_ T z) (su_ a3 z)), bD, bE, z⟩ (.cons z (.cons z (.cons z (.cons z (.cons z (.cons z .nil))))))
          ·rintro ⟨gm, L, K, J, gn, bo, gp, gq⟩ _ bG ⟨rfl, H, aU, aW, rfl⟩
           replace h := d4
           try dsimp only at h H aU aW
           refine (show WD _ _ _ _ _ _ _ _ [(0, v0), (4, E), (5, vi G), (51, E), (55, ag [vi 1, vi 2, vu 0, gp]), (60, ag [vi L, vi K, vu J, gq])] _ _ from ?_)
           refine WD.heavy 10 z (by kernel_rfl) ?_
           have eF := h
           obtain ⟨ab, ac, ad, rfl⟩ := aU.shape
           have h := eF
           have eG := h
           obtain ⟨M, P, Q, rfl⟩ := aW.shape
           have h := eG
           have eH : Stp [11, 12, 1001, 1002, 1004, 1005] (Lg.O0 A) w bo bG := (tr_ (su_ C z) (tr_ (su_ q z) (tr_ (su_ r z) (tr_ (su_ a z) (tr_ (su_ d z) (tr_ (su_ e z) (tr_ (su_ m z) (tr_ (su_ o z) (tr_ (su_ t z) (tr_ (su_ D z) (tr_ (su_ p z) (su_ H z))))))))))))
           have eI : Stp [11, 12, 1001, 1002, 1004, 1005] (Lg.O0 A) w bo bG := (tr_ (su_ C z) (tr_ (su_ q z) (tr_ (su_ r z) (tr_ (su_ a z) (tr_ (su_ d z) (tr_ (su_ e z) (tr_ (su_ m z) (tr_ (su_ o z) (tr_ (su_ t z) (tr_ (su_ D z) (tr_ (su_ p z) (su_ H z))))))))))))
           refine WL.buildSlice (O := bo) (R := (frR rep_api_Fld w.heap.size)) (vals := [(0, ag [vi 1, vi 2, vu 0, (vl ab ac ad)]), (1, ag [vi L, vi K, vu J, (vl M P Q)])]) 16 [vi 1, vi 2, vu 0, (vl ab ac ad), vi L, vi K, vu J, (vl M P Q)] (xs := [(api_Fld.mk 1 2 0 gm), (api_Fld.mk L K J gn)]) (by decide) ty70 ty72 (show 0 < rep_api_Fld.n by decide) (show 2 * rep_api_Fld.n ≤ 65536 by decide) (fe_ z) (by kernel_rfl) z ⟨[vi 1, vi 2, vu 0, (vl ab ac ad)], [vi L, vi K, vu J, (vl M P Q)], z, ⟨[vi 1], [vi 2, vu 0, (vl ab ac ad)], z, z, ⟨[vi 2], [vu 0, (vl ab ac ad)], z, z, ⟨[vu 0], [(vl ab ac ad)], z, z, ⟨_, z, (Sl.frB aU eH low0)⟩⟩⟩⟩, ⟨[vi L, vi K, vu J, (vl M P Q)], [], z, ⟨[vi L], [vi K, vu J, (vl M P Q)], z, z, ⟨[vi K], [vu J, (vl M P Q)], z, z, ⟨[vu J], [(vl M P Q)], z, z, ⟨_, z, (Sl.frB aW eI low0)⟩⟩⟩⟩, z⟩⟩ z ?_
           intro gr gs hF U eJ
           refine nl (At.dq (su_ U z) (WD.heavy 11 z (by kernel_rfl) ?_))
           obtain ⟨j, eK, h⟩ := bnd h
           refine WL.call (vals := [vi 2, gr]) kok44 z z (c_ref31_sub (A := fun _ => True) (Sl.unfr eJ.src.sl) eK) ?_
           rintro hG bH ⟨gt, rfl, eL, gu⟩
           obtain ⟨bp, g2, bX, W⟩ := adoptE gs (fun k => 1) eL
           have bI : Sl Rep.b bH (frs bp) gt j.B := Sl.adoptF gu (fun k hk => ⟨hk, z⟩) bX
           refine nl (At.dq (su_ W z) (WD.heavy 12 z (by kernel_rfl) ?_))
           have eM := h
           obtain ⟨ae, af, ah, rfl⟩ := bI.shape
           have h := eM
           have eN : Stp [11, 12, 1001, 1002, 1004, 1005] (Lg.O0 A) w bp bH := (tr_ (su_ C z) (tr_ (su_ q z) (tr_ (su_ r z) (tr_ (su_ a z) (tr_ (su_ d z) (tr_ (su_ e z) (tr_ (su_ m z) (tr_ (su_ o z) (tr_ (su_ t z) (tr_ (su_ D z) (tr_ (su_ p z) (tr_ (su_ H z) (tr_ (su_ U z) (su_ W z))))))))))))))
           refine WL.buildSlice (O := bp) (R := (frR rep_api_Fld w.heap.size)) (vals := [(0, ag [vi j.Num, vi j.Type_, vu j.V, (vl ae af ah)])]) 17 [vi j.Num, vi j.Type_, vu j.V, (vl ae af ah)] (xs := [j]) (by decide) ty70 ty72 (show 0 < rep_api_Fld.n by decide) (show 1 * rep_api_Fld.n ≤ 65536 by decide) (fe_ z) (by kernel_rfl) z ⟨[vi j.Num, vi j.Type_, vu j.V, (vl ae af ah)], [], z, ⟨[vi j.Num], [vi j.Type_, vu j.V, (vl ae af ah)], z, z, ⟨[vi j.Type_], [vu j.V, (vl ae af ah)], z, z, ⟨[vu j.V], [(vl ae af ah)], z, z, ⟨_, z, (Sl.frB bI eN low0)⟩⟩⟩⟩, z⟩ z ?_
           intro h5 h6 hH ay eO
           refine nl (At.dq (su_ ay z) (WD.heavy 13 z (by kernel_rfl) ?_))
           obtain ⟨eP, cK, h⟩ := bnd h
           have e5 := (((((((((((((a8.st q z z z).st r z z z).st a z z z).st d z z z).st e z z z).st m z z z).st o z z z).st t z z z).st D z z z).st p z z z).st H z z z).st U z z z).st W z z z).st ay z z z
           refine WL.append (by decide) ty70 ty72 z (by decide) z z e5 eO.src cK z ?_
           intro gw h7 hI a4 e6
           refine nl (At.dq (su_ a4 z) (WD.y 14 z (by kernel_rfl) (fun _ _ _ => ya z) z (WD.done_ (by kernel_rfl) (At.inBlock ?_))))
           obtain ⟨gz, cL, e7⟩ := OwnSl.rlb 1004 rfl e6
           exact At.join (σ := (List api_Fld × Own × Value)) (eP, gz, gw) ⟨go2 h, (tr_ (su_ q z) (tr_ (su_ r z) (tr_ (su_ a z) (tr_ (su_ d z) (tr_ (su_ e z) (tr_ (su_ m z) (tr_ (su_ o z) (tr_ (su_ t z) (tr_ (su_ D z) (tr_ (su_ p z) (tr_ (su_ H z) (tr_ (su_ U z) (tr_ (su_ W z) (tr_ (su_ ay z) (tr_ (su_ a4 z) (su_ cL z)))))))))))))))), e7⟩ (.cons z (.cons z (.cons z .nil)))
    ·rintro ⟨bY, ig, fp⟩ h8 ⟨rfl, bJ, cM⟩
     replace h := flowK_go ba
     try dsimp only at h bJ cM
     refine (show At _ _ _ [(0, v0), (4, fp), (5, vi G)] _ from ?_)
     refine th (rg (wY (ym z) z (wY (Y.add_i z z) z ?_)))
     obtain ⟨gB, e8, h⟩ := lt1 h
     refine WL.yE (ya z) (congrArg vi e8.symm) z (nl ?_)
     obtain ⟨gC, cN, e9⟩ := OwnSl.rlb 1005 rfl cM
     exact At.round (bY, gB, gC, fp) g7 (Nat.lt_succ_self _) ⟨next1 h aK, (tr_ (su_ C z) (tr_ (su_ bJ z) (su_ cN z))), e9⟩ (.cons z (.cons z (.cons z .nil)))
   ·refine WC.condF' z a9 (WC.exit (At.thenX (At.loopX ?_)))
    obtain ⟨gE, cO, fa⟩ := OwnSl.rlb 1006 rfl a8
    exact At.hitB (σ := (List api_Fld × Own × Value)) (bQ, gE, E) ⟨brk1 h aK, (tr_ (su_ C z) (su_ cO z)), fa⟩ (.cons z .nil)
  ·rintro ⟨bZ, ih, fq⟩ h9 ⟨rfl, bK, cP⟩
   replace h := flowK_go a7
   try dsimp only at h bK cP
   refine (show At _ _ _ [(4, fq)] _ from ?_)
   refine At.inBlockHit ?_
   obtain ⟨gG, cQ, fc⟩ := OwnSl.rlb 1008 rfl cP
   exact At.join (σ := (List api_Fld × Own × Value)) (bZ, gG, fq) ⟨go2 h, (tr_ (su_ bK z) (su_ cQ z)), fc⟩ (.cons z .nil)
 ·rintro ⟨g3, fs, ft⟩ gH ⟨rfl, am, bq⟩
  replace h := flowK_go a6
  try dsimp only at h am bq
  refine (show At _ _ _ [(4, ft)] _ from ?_)
  refine th (sq (sq (rg (wY (ym z) z (wY (Y.len ty70 z (Sl.unfr bq.src.sl)) z (wY (Y.eql_i z z) z (nl (th ?_))))))))
  rcases cnd h with ⟨aX, h⟩ | ⟨aX, h⟩
  ·refine WC.condT' z aX (sq (rg (wY (ya z) z (wY (ya z) z (nl (th (rt (At.thenR ?_))))))))
   obtain ⟨rfl, rfl⟩ := tup2 h
   have fd : Stp [11, 12, 1001, 1002, 1004, 1005, 1006] (Lg.O0 A) w fs gH := (su_ am z)
   exact At.res (.inl z) z (.tmp z (.tmp z .nil)) ⟨sn, z, (se_ fd z z), (Or.inl ⟨z, z⟩)⟩
  ·refine WC.condF' z aX (sk (th (sq (rg (wY (ym z) z ?_)))))
   obtain ⟨l, fe, h⟩ := bnd h
   refine WL.call (vals := [vi 1, ft]) kok44 z z (c_ref31_sub (A := fun _ => True) (Sl.unfr bq.src.sl) fe) ?_
   rintro hJ bL ⟨gI, rfl, ff, gJ⟩
   obtain ⟨br, g4, b0, a5⟩ := adoptE fs (fun k => 1) ff
   have bM : Sl Rep.b bL (frs br) gI l.B := Sl.adoptF gJ (fun k hk => ⟨hk, z⟩) b0
   have fg := h
   obtain ⟨ai, aj, ak, rfl⟩ := bM.shape
   have h := fg
   have fh : Stp [11, 12, 1001, 1002, 1004, 1005, 1006] (Lg.O0 A) w br bL := (tr_ (su_ am z) (su_ a5 z))
   refine WL.buildSlice (O := br) (R := (frR rep_api_Fld w.heap.size)) (vals := [(0, ag [vi l.Num, vi l.Type_, vu l.V, (vl ai aj ak)])]) 18 [vi l.Num, vi l.Type_, vu l.V, (vl ai aj ak)] (xs := [l]) (by decide) ty70 ty72 (show 0 < rep_api_Fld.n by decide) (show 1 * rep_api_Fld.n ≤ 65536 by decide) (fe_ z) (by kernel_rfl) z ⟨[vi l.Num, vi l.Type_, vu l.V, (vl ai aj ak)], [], z, ⟨[vi l.Num], [vi l.Type_, vu l.V, (vl ai aj ak)], z, z, ⟨[vi l.Type_], [vu l.V, (vl ai aj ak)], z, z, ⟨[vu l.V], [(vl ai aj ak)], z, z, ⟨_, z, (Sl.frB bM fh low0)⟩⟩⟩⟩, z⟩ z ?_
   intro gK gL hK cR fi
   obtain ⟨⟨gM, ia⟩, fj, h⟩ := bnd h
   refine WL.call (vals := [gK]) kok47 z z (c_ref30_Encode (A := fun _ => True) (Sl.unfr fi.src.sl) fj) ?_
   rintro hL bO ⟨cS, rfl, fk, gO⟩
   obtain ⟨cT, g5, b1, cU⟩ := adoptE gL (fun k => 1) fk
   have fl : Sl Rep.b bO (frs cT) cS gM := Sl.adoptF gO (fun k hk => ⟨hk, z⟩) b1
   refine wY (yx z z) z (wY (yx z z) z (wY (ya z) z (wY (ya z) z (nl (th (rt ?_))))))
   obtain ⟨rfl, rfl⟩ := tup2 h
   have bP : Stp [11, 12, 1001, 1002, 1004, 1005, 1006] (Lg.O0 A) w cT bO := (tr_ (su_ am z) (tr_ (su_ a5 z) (tr_ (su_ cR z) (su_ cU z))))
   exact At.res (.inl z) z (.tmp z (.tmp z .nil)) ⟨cS, z, (se_ bP z z), (Sl.outF fl bP low0)⟩
theorem c_law31_OtlpWrites {A : Nat → Prop} {a0 : List api_Point} {v0 : Value} {w : World} (hs0 : Sl rep_api_Point w A v0 a0) {r0 : Bool} (h : law31_OtlpWrites a0 = some r0) : Rets Tryz.prog 5 [v0] w (fun v w' => v = vB r0 ∧ Ext w w') := by
 unfold law31_OtlpWrites at h
 refine Rets.enter Tryz.func5 z z ?_
 have L : Sl rep_api_Point w (imm (Lg.O0 A)) v0 a0 := (Sl.start hs0)
 refine (show WC _ _ _ _ [(0, v0)] _ from ?_)
 refine sq (rg (wY (ya z) z (nl (th (sq (sq (rg ?_)))))))
 obtain ⟨aC, M, h⟩ := bnd h
 refine WL.call (vals := []) kok18 z z (c_law31_awake M) ?_
 rintro ax P ⟨rfl, Q⟩
 obtain ⟨G, al, am, a⟩ := adoptE (Lg.O0 A) (fun k => 1) Q
 refine wY (Y.not z) z (nl (th ?_))
 rcases cnd h with ⟨j, h⟩ | ⟨j, h⟩
 ·refine WC.condT' z j (sq (rg (wY (ya z) z (nl (th (rt (At.thenR ?_)))))))
  obtain rfl := some1 h
  have S : Stp [] (Lg.O0 A) w G P := (su_ a z)
  exact At.res (.inl z) z (.tmp z .nil) ⟨z, (se_ S z z)⟩
 ·refine WC.condF' z j (sk (th (sq (sq (rg (wY (ym z) z ?_))))))
  have C := L.i a z z
  obtain ⟨aD, T, h⟩ := bnd h
  refine WL.call (vals := [v0, vi 20]) kok7 z z (c_ref12_Some (A := fun _ => True) (Sl.all C) T) ?_
  rintro ay U ⟨rfl, W⟩
  obtain ⟨H, an, ao, c⟩ := adoptE G (fun k => 1) W
  refine wY (Y.not z) z (nl (th ?_))
  rcases cnd h with ⟨l, h⟩ | ⟨l, h⟩
  ·refine WC.condT' z l (sq (rg (wY (ya z) z (nl (th (rt (At.thenR ?_)))))))
   obtain rfl := some1 h
   have X : Stp [] (Lg.O0 A) w H U := (tr_ (su_ a z) (su_ c z))
   exact At.res (.inl z) z (.tmp z .nil) ⟨z, (se_ X z z)⟩
  ·refine WC.condF' z l (sk (th (sq (rg (wY (ym z) z ?_)))))
   have D := C.i c z z
   obtain ⟨⟨d, p⟩, Z, h⟩ := bnd h
   refine WL.call (vals := [v0]) kok19 z z (c_otlp_Encode (A := fun _ => True) (Sl.all D) Z) ?_
   rintro az aa ⟨I, rfl, ab, ap⟩
   obtain ⟨J, aq, E, q⟩ := adoptE H (fun k => if ob I = some k then 11 else 1) ab
   have ac : OwnSl 11 Rep.b 5 J aa I d := RowF.adopt 11 Flat.b ap E (fun k hk => if_pos hk)
   refine wY (ym z) z (wY (yx z z) z (wY (yx z z) z (wY (ya z) z (wY (ya z) z (nl (th (sq (rg (wY (ym z) z ?_)))))))))
   have ad := D.i q z z
   obtain ⟨⟨e, r⟩, ae, h⟩ := bnd h
   refine WL.call (vals := [v0]) kok20 z z (c_ref31_Encode (A := fun _ => True) (Sl.all ad) ae) ?_
   rintro aA m ⟨ar, rfl, af, au⟩
   obtain ⟨K, av, F, t⟩ := adoptE J (fun k => 1) af
   have ah : Sl Rep.b m (frs K) ar e := Sl.adoptF au (fun k hk => ⟨hk, z⟩) F
   refine wY (ym z) z (wY (yx z z) z (wY (yx z z) z (wY (ya z) z (wY (ya z) z (nl (th (sq (rg (wY (ym z) z ?_)))))))))
   have ai := ac.st t z z z
   refine wY (Y.b2s ty51 ty5 ty9 z ai.src.sl) z (wY (ym z) z (wY (Y.b2s ty51 ty5 ty9 z ah) z (wY (Y.eql_s z z) z (wY (ym z) z ?_))))
   refine WL.cut 4 (σ := Unit) (fun _ w' => m = w') (fun _ => [(31, vB ((decide (d = e)) && (decide (p = r))))]) ?_ ?_
   ·refine WL.part 27 z (fun o => ?_) (fun o => ?_)
    ·refine ug z z (wY (ym z) z (ug z z (wY (ym z) z (ug z z (wY (Y.eql_i z z) z (wY (Y.pick (b := true) z z) z (WL.ren (v' := vB ((decide (d = e)) && (decide (p = r)))) 31 z (congrArg vB (andT o)) ?_)))))))
     exact nl (At.join () z (.cons z .nil))
    ·refine WL.gS z z z z (WL.gS z z z z (WL.gS z z z z (wY (Y.pick (b := false) z z) z (WL.ren (v' := vB ((decide (d = e)) && (decide (p = r)))) 31 z (congrArg vB (andF o)) ?_))))
     exact nl (At.join () z (.cons z .nil))
   ·rintro _ _ rfl
    refine (show WL _ _ _ _ _ [(31, vB ((decide (d = e)) && (decide (p = r))))] _ from ?_)
    obtain ⟨aE, aj, h⟩ := lt1 h
    refine WL.yE (ya z) (congrArg vB aj.symm) z (nl (th (rt ?_)))
    obtain rfl := some1 h
    have ak : Stp [] (Lg.O0 A) w K m := (tr_ (su_ a z) (tr_ (su_ c z) (tr_ (su_ q z) (su_ t z))))
    exact At.res (.inl z) z (.tmp z .nil) ⟨z, (se_ ak z z)⟩
end Go.Lg
