/- The walks of OtlpBack and of what it calls, printed by gen.py. -/
import Derived.Test.YtihlealbhlgikaaObLgObWOtlpBackx1
set_option linter.unusedVariables false
namespace Go.Lg
open Go Go.Proofs
set_option maxRecDepth 100000
set_option maxHeartbeats 4000000
theorem c_otlp_fields {A : Nat → Prop} {v0_1 : Value} {v0_13 : Value} {v0_15 : Value} {a0 : api_Point} {w : World} (hs0_1 : Sl rep_api_Pair w A v0_1 a0.Attrs) (hs0_13 : Sl Rep.u w A v0_13 a0.Hist.Pos.Counts) (hs0_15 : Sl Rep.u w A v0_15 a0.Hist.Neg.Counts) {r0 : List api_Fld} (h : otlp_fields a0 = some r0) : Rets Try.prog 60 [ag (cp a0 v0_1 v0_13 v0_15)] w (fun v w' => ∃ (u0 : Value), v = u0 ∧ Ext w w' ∧ Sl rep_api_Fld w' (fun k => w.heap.size ≤ k) u0 r0) := by
 unfold otlp_fields at h
 refine Rets.enter Try.func60 z z ?_
 have ck : Sl rep_api_Pair w (imm (Lg.O0 A)) v0_1 a0.Attrs := (Sl.start hs0_1)
 have cl : Sl Rep.u w (imm (Lg.O0 A)) v0_13 a0.Hist.Pos.Counts := (Sl.start hs0_13)
 have cm : Sl Rep.u w (imm (Lg.O0 A)) v0_15 a0.Hist.Neg.Counts := (Sl.start hs0_15)
 refine (show WC _ _ _ _ [(0, ag (cp a0 v0_1 v0_13 v0_15))] _ from ?_)
 refine sq (rg ?_)
 have gr := h
 obtain ⟨gl, gm, gn, rfl⟩ := ck.shape
 have h := gr
 have gs := h
 obtain ⟨cn, co, cq, rfl⟩ := cl.shape
 have h := gs
 have gt := h
 obtain ⟨cr, cs, ct, rfl⟩ := cm.shape
 have h := gt
 refine WL.box (O := (Lg.O0 A)) 11 (cp a0 (vl gl gm gn) (vl cn co cq) (vl cr cs ct)) z z z ?_
 intro ak gp iZ t bz
 refine wY (ya z) z (nl (th (sq (WC.drawH [] [0, 1, 2, 3, 4, 5, 6, 7, 8, 9] gp 10 fmix z (by kernel_rfl) ?_))))
 intro i0 d
 refine WD.y 0 z (by kernel_rfl) (fun _ _ _ => yf fo33_5 z) z (WD.y 1 z (by kernel_rfl) (fun i1 jv df => have gu := bz.st d z; have gw := gu.st df z; yl ty3 z z (gw.cell 5 _ z)) z (WD.y 2 z (by kernel_rfl) (fun _ _ _ => Y.conv_iu ty3.u ty26.u z) z (WD.y 4 z (by kernel_rfl) (fun _ _ _ => yf fo33_6 z) z (WD.y 5 z (by kernel_rfl) (fun i2 jw dg => have gz := bz.st d z; have gB := gz.st dg z; yl ty3 z z (gB.cell 6 _ z)) z (WD.y 6 z (by kernel_rfl) (fun _ _ _ => Y.conv_iu ty3.u ty26.u z) z (WD.heavy 3 z (by kernel_rfl) ?_))))))
 obtain ⟨X, gC, h⟩ := bnd h
 refine WL.call (vals := [vi 2, vu (toU64 a0.Start)]) kok86 z z (c_otlp_fix gC) ?_
 rintro i3 gE ⟨ic, rfl, gG, ie⟩
 obtain ⟨gq, ig, cu, l⟩ := adoptE gp (fun k => 1) gG
 have gH : Sl Rep.b gE (frs gq) ic X.B := Sl.adoptF ie (fun k hk => ⟨hk, z⟩) cu
 refine nl (At.dq (su_ l z) (WD.heavy 7 z (by kernel_rfl) ?_))
 obtain ⟨U, gI, h⟩ := bnd h
 refine WL.call (vals := [vi 3, vu (toU64 a0.Time)]) kok86 z z (c_otlp_fix gI) ?_
 rintro i4 bA ⟨ih, rfl, gJ, ii⟩
 obtain ⟨bG, ij, cw, j⟩ := adoptE gq (fun k => 1) gJ
 have cx : Sl Rep.b bA (frs bG) ih U.B := Sl.adoptF ii (fun k hk => ⟨hk, z⟩) cw
 refine nl (At.dq (su_ j z) (WD.heavy 8 z (by kernel_rfl) ?_))
 have cy := gH.f j z
 have gK := h
 obtain ⟨a7, a8, a9, rfl⟩ := cy.shape
 have h := gK
 have gL := h
 obtain ⟨aY, aZ, a2, rfl⟩ := cx.shape
 have h := gL
 have gM : Stp [] (Lg.O0 A) w bG bA := (tr_ (su_ t z) (tr_ (su_ d z) (tr_ (su_ l z) (su_ j z))))
 have gO : Stp [] (Lg.O0 A) w bG bA := (tr_ (su_ t z) (tr_ (su_ d z) (tr_ (su_ l z) (su_ j z))))
 refine WL.buildSlice (O := bG) (R := (frR rep_api_Fld w.heap.size)) (vals := [(0, ag [vi X.Num, vi X.Type_, vu X.V, (vl a7 a8 a9)]), (1, ag [vi U.Num, vi U.Type_, vu U.V, (vl aY aZ a2)])]) 12 [vi X.Num, vi X.Type_, vu X.V, (vl a7 a8 a9), vi U.Num, vi U.Type_, vu U.V, (vl aY aZ a2)] (xs := [X, U]) (by decide) ty66 ty68 (show 0 < rep_api_Fld.n by decide) (show 2 * rep_api_Fld.n ≤ 65536 by decide) (fe_ z) (by kernel_rfl) z ⟨[vi X.Num, vi X.Type_, vu X.V, (vl a7 a8 a9)], [vi U.Num, vi U.Type_, vu U.V, (vl aY aZ a2)], z, ⟨[vi X.Num], [vi X.Type_, vu X.V, (vl a7 a8 a9)], z, z, ⟨[vi X.Type_], [vu X.V, (vl a7 a8 a9)], z, z, ⟨[vu X.V], [(vl a7 a8 a9)], z, z, ⟨_, z, (Sl.frB cy gM low0)⟩⟩⟩⟩, ⟨[vi U.Num, vi U.Type_, vu U.V, (vl aY aZ a2)], [], z, ⟨[vi U.Num], [vi U.Type_, vu U.V, (vl aY aZ a2)], z, z, ⟨[vi U.Type_], [vu U.V, (vl aY aZ a2)], z, z, ⟨[vu U.V], [(vl aY aZ a2)], z, z, ⟨_, z, (Sl.frB cx gO low0)⟩⟩⟩⟩, z⟩⟩ z ?_
 intro cz cA cC C bB
 refine nl (At.dq (su_ C z) (WD.y 9 z (by kernel_rfl) (fun _ _ _ => ya z) z (WD.done_ (by kernel_rfl) (th (sq (sq (rg (wY (yf fo33_2 z) z ?_))))))))
 have aT := (((bz.st d z).st l z).st j z).st C z
 refine wY (yl ty3 z z (aT.cell 2 _ z)) z (nl (th ?_))
 obtain ⟨gU, h, di⟩ := bnd h
 refine WC.join (σ := (List api_Fld × Own × Value)) (fun x w' => x.1 = gU ∧ Stp [12] cA cC x.2.1 w' ∧ OwnSl 1002 (frR rep_api_Fld w.heap.size) 68 x.2.1 w' x.2.2 x.1) (fun x => [(1, pt ak 0), (3, x.2.2)]) ?_ ?_
 ·refine WC.block (sq (rg (wY (Y.eql_i z z) z ?_)))
  obtain ⟨i5, dj, h⟩ := lt1 h
  refine WL.yE (ya z) (congrArg vB dj.symm) z (nl (th ?_))
  rcases cnd h with ⟨ba, h⟩ | ⟨ba, h⟩
  ·refine WC.condT' z ba (rg (wY (ym z) z (wY (yf fo33_7 z) z (wY (yl ty3 z z (aT.cell 7 _ z)) z (wY (Y.conv_iu ty3.u ty26.u z) z ?_)))))
   obtain ⟨I, dk, h⟩ := bnd h
   refine WL.call (vals := [vi 6, vu (toU64 a0.Int_)]) kok86 z z (c_otlp_fix dk) ?_
   rintro il bH ⟨gV, rfl, dl, gW⟩
   obtain ⟨bC, hZ, b9, a3⟩ := adoptE cA (fun k => 1) dl
   have bI : Sl Rep.b bH (frs bC) gV I.B := Sl.adoptF gW (fun k hk => ⟨hk, z⟩) b9
   have dm := h
   obtain ⟨aA, aC, aD, rfl⟩ := bI.shape
   have h := dm
   have dn : Stp [] (Lg.O0 A) w bC bH := (tr_ (su_ t z) (tr_ (su_ d z) (tr_ (su_ l z) (tr_ (su_ j z) (tr_ (su_ C z) (su_ a3 z))))))
   refine WL.buildSlice (O := bC) (R := (frR rep_api_Fld w.heap.size)) (vals := [(0, ag [vi I.Num, vi I.Type_, vu I.V, (vl aA aC aD)])]) 13 [vi I.Num, vi I.Type_, vu I.V, (vl aA aC aD)] (xs := [I]) (by decide) ty66 ty68 (show 0 < rep_api_Fld.n by decide) (show 1 * rep_api_Fld.n ≤ 65536 by decide) (fe_ z) (by kernel_rfl) z ⟨[vi I.Num, vi I.Type_, vu I.V, (vl aA aC aD)], [], z, ⟨[vi I.Num], [vi I.Type_, vu I.V, (vl aA aC aD)], z, z, ⟨[vi I.Type_], [vu I.V, (vl aA aC aD)], z, z, ⟨[vu I.V], [(vl aA aC aD)], z, z, ⟨_, z, (Sl.frB bI dn low0)⟩⟩⟩⟩, z⟩ z ?_
   intro i6 i7 im br dp
   obtain ⟨dr, cD, h⟩ := bnd h
   have dt := (bB.st a3 z z z).st br z z z
   refine WL.append (by decide) ty66 ty68 z (by decide) z z dt dp.src cD z ?_
   intro gX i8 io cE du
   refine wY (ya z) z (nl (At.inBlock ?_))
   obtain ⟨gY, cF, dw⟩ := OwnSl.rlb 1002 rfl du
   exact At.join (σ := (List api_Fld × Own × Value)) (dr, gY, gX) ⟨some1 h, (tr_ (su_ a3 z) (tr_ (su_ br z) (tr_ (su_ cE z) (su_ cF z)))), dw⟩ (.cons z (.cons z .nil))
  ·refine WC.condF' z ba (sq ?_)
   obtain ⟨gZ, h, dx⟩ := bnd h
   refine WC.join (σ := Bool) (fun x w' => x = gZ ∧ cC = w') (fun x => [(1, pt ak 0), (3, cz), (26, vB x)]) ?_ ?_
   ·refine sq (rg (wY (Y.eql_i z z) z ?_))
    obtain ⟨g0, dy, h⟩ := lt1 h
    refine WL.yE (ya z) (congrArg vB dy.symm) z (nl (th ?_))
    rcases cnd h with ⟨bb, h⟩ | ⟨bb, h⟩
    ·refine WC.condT' z bb (sk ?_)
     exact At.join (σ := Bool) g0 ⟨some1 h, z⟩ (.cons z (.cons z (.cons z .nil)))
    ·refine WC.condF' z bb (sq (rg (wY (Y.eql_i z z) z ?_)))
     obtain ⟨g1, dz, h⟩ := lt1 h
     refine WL.yE (ya z) (congrArg vB dz.symm) z (nl (th ?_))
     rcases cnd h with ⟨bc, h⟩ | ⟨bc, h⟩
     ·refine WC.condT' z bc (sk ?_)
      exact At.join (σ := Bool) g1 ⟨some1 h, z⟩ (.cons z (.cons z (.cons z .nil)))
     ·refine WC.condF' z bc (rg (wY (Y.eql_i z z) z ?_))
      obtain ⟨g2, dA, h⟩ := lt1 h
      refine WL.yE (ya z) (congrArg vB dA.symm) z (nl ?_)
      exact At.join (σ := Bool) g2 ⟨some1 h, z⟩ (.cons z (.cons z (.cons z .nil)))
   ·rintro g3 _ ⟨rfl, rfl⟩
    replace h := dx
    try dsimp only at h
    refine (show At _ _ _ [(1, pt ak 0), (3, cz), (26, vB g3)] _ from ?_)
    refine th ?_
    rcases cnd h with ⟨bd, h⟩ | ⟨bd, h⟩
    ·refine WC.condT' z bd (rg (wY (ym z) z (wY (yf fo33_8 z) z (wY (yl ty26 z z (aT.cell 8 _ z)) z ?_))))
     obtain ⟨J, dB, h⟩ := bnd h
     refine WL.call (vals := [vi 4, vu a0.Re]) kok86 z z (c_otlp_fix dB) ?_
     rintro ip bJ ⟨g4, rfl, dC, g5⟩
     obtain ⟨bD, h0, ca, a4⟩ := adoptE cA (fun k => 1) dC
     have bK : Sl Rep.b bJ (frs bD) g4 J.B := Sl.adoptF g5 (fun k hk => ⟨hk, z⟩) ca
     have dD := h
     obtain ⟨aE, aF, aG, rfl⟩ := bK.shape
     have h := dD
     have dE : Stp [] (Lg.O0 A) w bD bJ := (tr_ (su_ t z) (tr_ (su_ d z) (tr_ (su_ l z) (tr_ (su_ j z) (tr_ (su_ C z) (su_ a4 z))))))
     refine WL.buildSlice (O := bD) (R := (frR rep_api_Fld w.heap.size)) (vals := [(0, ag [vi J.Num, vi J.Type_, vu J.V, (vl aE aF aG)])]) 14 [vi J.Num, vi J.Type_, vu J.V, (vl aE aF aG)] (xs := [J]) (by decide) ty66 ty68 (show 0 < rep_api_Fld.n by decide) (show 1 * rep_api_Fld.n ≤ 65536 by decide) (fe_ z) (by kernel_rfl) z ⟨[vi J.Num, vi J.Type_, vu J.V, (vl aE aF aG)], [], z, ⟨[vi J.Num], [vi J.Type_, vu J.V, (vl aE aF aG)], z, z, ⟨[vi J.Type_], [vu J.V, (vl aE aF aG)], z, z, ⟨[vu J.V], [(vl aE aF aG)], z, z, ⟨_, z, (Sl.frB bK dE low0)⟩⟩⟩⟩, z⟩ z ?_
     intro i9 ja iq bs dF
     obtain ⟨dG, cG, h⟩ := bnd h
     have dI := (bB.st a4 z z z).st bs z z z
     refine WL.append (by decide) ty66 ty68 z (by decide) z z dI dF.src cG z ?_
     intro g6 jb ir cH dJ
     refine wY (ya z) z (nl (At.inBlock ?_))
     obtain ⟨g7, cI, dK⟩ := OwnSl.rlb 1002 rfl dJ
     exact At.join (σ := (List api_Fld × Own × Value)) (dG, g7, g6) ⟨some1 h, (tr_ (su_ a4 z) (tr_ (su_ bs z) (tr_ (su_ cH z) (su_ cI z)))), dK⟩ (.cons z (.cons z .nil))
    ·refine WC.condF' z bd (sk (At.inBlock ?_))
     obtain ⟨g8, cJ, dL⟩ := OwnSl.rlb 1002 rfl bB
     exact At.join (σ := (List api_Fld × Own × Value)) ([X, U], g8, cz) ⟨some1 h, (su_ cJ z), dL⟩ (.cons z (.cons z .nil))
 ·rintro ⟨g9, ha, cK⟩ it ⟨rfl, o, bL⟩
  replace h := di
  try dsimp only at h o bL
  refine (show At _ _ _ [(1, pt ak 0), (3, cK)] _ from ?_)
  refine th (sq (sq (rg (wY (yf fo33_1 z) z ?_))))
  have bM := aT.st o z
  refine wY (yl ty25 z z (bM.cell 1 _ z)) z ?_
  have dR := (((((ck.i t z z).i d z z).i l z z).i j z z).i C z z).i o z z
  obtain ⟨bf, dS, h⟩ := bnd h
  refine WL.call (vals := [(vl gl gm gn)]) kok87 z z (c_label_Sorted (A := fun _ => True) (Sl.all dR) dS) ?_
  rintro aU aW ⟨_, rfl, dT, hd⟩
  obtain ⟨bg, h1, cb, r⟩ := adoptE ha (fun k => if ob aU = some k then 15 else 1) dT
  have bO : OwnSl 15 rep_api_Pair 65 bg aW aU bf := RowF.adopt 15 flat_api_Pair hd cb (fun k hk => if_pos hk)
  refine wY (Y.len ty25 z bO.src.sl) z (wY (ym z) z (nl (th ?_)))
  obtain ⟨he, h, dU⟩ := bnd h
  refine WC.join (σ := (List api_Fld × Own × Value)) (fun x w' => x.1 = he ∧ Stp [16, 18, 1002, 1003, 1004] bg aW x.2.1 w' ∧ OwnSl 1006 (frR rep_api_Fld w.heap.size) 68 x.2.1 w' x.2.2 x.1) (fun x => [(1, pt ak 0), (3, x.2.2)]) ?_ ?_
  ·refine WC.block ?_
   obtain ⟨cL, h, dV⟩ := flow1 h
   obtain ⟨cM, h⟩ := loop_some h
   refine WC.joinB 1 (σ := (List api_Fld × Own × Value)) (fun x w' => cL = .go x.1 ∧ Stp [16, 18, 1002, 1003] bg aW x.2.1 w' ∧ OwnSl 1004 (frR rep_api_Fld w.heap.size) 68 x.2.1 w' x.2.2 x.1) (fun x => [(1, pt ak 0), (3, x.2.2)]) ?_ ?_
   ·have dW := bL.st r z z z
    obtain ⟨hf, cN, dX⟩ := OwnSl.rlb 1003 rfl dW
    refine WC.loop (σ := (List api_Fld × Int × Own × Value)) (fun x k w' => loopN k (otlp_fields_lp1 bf) (x.1, x.2.1) = some cL ∧ Stp [16, 18, 1002, 1003] bg aW x.2.2.1 w' ∧ OwnSl 1003 (frR rep_api_Fld w.heap.size) 68 x.2.2.1 w' x.2.2.2 x.1) (fun x => [(1, pt ak 0), (3, x.2.2.2), (38, aU), (39, vi (bf.length : Int)), (40, vi x.2.1)]) (g9, 0, hf, cK) cM (.cons z (.cons z (.cons z (.cons z (.cons z .nil))))) ⟨h, (su_ cN z), dX⟩ ?_
    rintro ⟨hg, cO, hh, cP⟩ cM iu ⟨h, aa, bh⟩
    obtain ⟨hj, jc, rfl, h, bP⟩ := rnd1 h
    unfold otlp_fields_lp1 at h
    try dsimp only at h aa bh
    refine (show WC _ _ _ _ [(1, pt ak 0), (3, cP), (38, aU), (39, vi (bf.length : Int)), (40, vi cO)] _ from ?_)
    refine sq (rg (wY (Y.lss_i z z) z (nl (th (sq ?_)))))
    rcases cnd h with ⟨bi, h⟩ | ⟨bi, h⟩
    ·refine WC.condT' z bi (sk (th (sq (WC.block (sq (rg ?_))))))
     obtain ⟨af, dY, h⟩ := bnd h
     have bQ := bO.st aa z z z
     obtain ⟨jd, ik, iv, bR, dZ, d0, bj, cQ⟩ := OwnSl.at bQ dY
     obtain ⟨_, _, rfl, rfl, rfl⟩ := cQ
     replace bj : CellsAt _ _ _ [vs af.Key, vs af.Val] := bj
     have cR := CAt.own bQ bR bj
     refine wY (Y.indexAddr ty25 ty65 z bR z dZ d0) z (wY (yL ty65 z z cR.at_ z) z (WL.alloc (O := hh) 16 [vs [], vs []] ty65 z z ?_))
     intro je cS iw ah d1
     refine WL.store (v := ag [vs af.Key, vs af.Val]) (cells' := [vs af.Key, vs af.Val]) ty65 z z d1 z (le_ z) z z ?_
     intro iy ai bS
     refine nl (th (WC.drawH [18, 1003] [0, 1, 2, 3, 4, 5, 6, 7, 8, 9, 10, 11] cS 12 fmix z (by kernel_rfl) ?_))
     intro iz ab
     refine WD.y 0 z (by kernel_rfl) (fun _ _ _ => ym z) z (WD.y 1 z (by kernel_rfl) (fun _ _ _ => yf fo65_0 z) z (WD.y 2 z (by kernel_rfl) (fun iA jf cT => have d2 := bS.st ab z; have d3 := d2.st cT z; yl ty9 z z (d3.cell 0 _ z)) z (WD.y 4 z (by kernel_rfl) (fun _ _ _ => yf fo65_1 z) z (WD.y 5 z (by kernel_rfl) (fun iB jg cU => have d4 := bS.st ab z; have d5 := d4.st cU z; yl ty9 z z (d5.cell 1 _ z)) z (WD.heavy 3 z (by kernel_rfl) ?_)))))
     obtain ⟨K, d6, h⟩ := bnd h
     refine WL.call (vals := [vi 1, vs af.Key]) kok62 z z (c_otlp_text d6) ?_
     rintro iC d7 ⟨hm, rfl, d8, hn⟩
     obtain ⟨cV, h2, cc, ae⟩ := adoptE cS (fun k => 1) d8
     have d9 : Sl Rep.b d7 (frs cV) hm K.B := Sl.adoptF hn (fun k hk => ⟨hk, z⟩) cc
     refine nl (At.dq (su_ ae z) (WD.heavy 6 z (by kernel_rfl) ?_))
     obtain ⟨E, ea, h⟩ := bnd h
     refine WL.call (vals := [vi 2, vs af.Val]) kok62 z z (c_otlp_text ea) ?_
     rintro iD bk ⟨ho, rfl, eb, hr⟩
     obtain ⟨bl, h3, cd, ac⟩ := adoptE cV (fun k => 1) eb
     have bT : Sl Rep.b bk (frs bl) ho E.B := Sl.adoptF hr (fun k hk => ⟨hk, z⟩) cd
     refine nl (At.dq (su_ ac z) (WD.heavy 7 z (by kernel_rfl) ?_))
     have bU := d9.f ac z
     have ec := h
     obtain ⟨aH, aI, aJ, rfl⟩ := bU.shape
     have h := ec
     have ed := h
     obtain ⟨al, am, an, rfl⟩ := bT.shape
     have h := ed
     have ee : Stp [12, 16, 18, 1002, 1003] (Lg.O0 A) w bl bk := (tr_ (su_ t z) (tr_ (su_ d z) (tr_ (su_ l z) (tr_ (su_ j z) (tr_ (su_ C z) (tr_ (su_ o z) (tr_ (su_ r z) (tr_ (su_ aa z) (tr_ (su_ ah z) (tr_ (su_ ai z) (tr_ (su_ ab z) (tr_ (su_ ae z) (su_ ac z)))))))))))))
     have ef : Stp [12, 16, 18, 1002, 1003] (Lg.O0 A) w bl bk := (tr_ (su_ t z) (tr_ (su_ d z) (tr_ (su_ l z) (tr_ (su_ j z) (tr_ (su_ C z) (tr_ (su_ o z) (tr_ (su_ r z) (tr_ (su_ aa z) (tr_ (su_ ah z) (tr_ (su_ ai z) (tr_ (su_ ab z) (tr_ (su_ ae z) (su_ ac z)))))))))))))
     refine WL.buildSlice (O := bl) (R := (frR rep_api_Fld w.heap.size)) (vals := [(0, ag [vi K.Num, vi K.Type_, vu K.V, (vl aH aI aJ)]), (1, ag [vi E.Num, vi E.Type_, vu E.V, (vl al am an)])]) 17 [vi K.Num, vi K.Type_, vu K.V, (vl aH aI aJ), vi E.Num, vi E.Type_, vu E.V, (vl al am an)] (xs := [K, E]) (by decide) ty66 ty68 (show 0 < rep_api_Fld.n by decide) (show 2 * rep_api_Fld.n ≤ 65536 by decide) (fe_ z) (by kernel_rfl) z ⟨[vi K.Num, vi K.Type_, vu K.V, (vl aH aI aJ)], [vi E.Num, vi E.Type_, vu E.V, (vl al am an)], z, ⟨[vi K.Num], [vi K.Type_, vu K.V, (vl aH aI aJ)], z, z, ⟨[vi K.Type_], [vu K.V, (vl aH aI aJ)], z, z, ⟨[vu K.V], [(vl aH aI aJ)], z, z, ⟨_, z, (Sl.frB bU ee low0)⟩⟩⟩⟩, ⟨[vi E.Num, vi E.Type_, vu E.V, (vl al am an)], [], z, ⟨[vi E.Num], [vi E.Type_, vu E.V, (vl al am an)], z, z, ⟨[vi E.Type_], [vu E.V, (vl al am an)], z, z, ⟨[vu E.V], [(vl al am an)], z, z, ⟨_, z, (Sl.frB bT ef low0)⟩⟩⟩⟩, z⟩⟩ z ?_
     intro ht hu iE ar eg
     refine nl (At.dq (su_ ar z) (WD.heavy 8 z (by kernel_rfl) ?_))
     obtain ⟨M, eh, h⟩ := bnd h
     refine WL.call (vals := [vi 7, ht]) kok30 z z (c_otlp_sub (A := fun _ => True) (Sl.unfr eg.src.sl) eh) ?_
     rintro iF bW ⟨cW, rfl, ei, hv⟩
     obtain ⟨hw, h4, ce, au⟩ := adoptE hu (fun k => if ob cW = some k then 18 else 1) ei
     have bX : OwnSl 18 Rep.b 5 hw bW cW M.B := RowF.adopt 18 Flat.b hv ce (fun k hk => if_pos hk)
     refine nl (At.dq (su_ au z) (WD.heavy 9 z (by kernel_rfl) ?_))
     have ej := h
     obtain ⟨aK, aL, aM, rfl⟩ := bX.shape
     have h := ej
     obtain ⟨cX, av, ek⟩ := OwnSl.giveF rfl Flat.b bX
     have em : Stp [12, 16, 18, 1002, 1003] (Lg.O0 A) w cX bW := (tr_ (su_ t z) (tr_ (su_ d z) (tr_ (su_ l z) (tr_ (su_ j z) (tr_ (su_ C z) (tr_ (su_ o z) (tr_ (su_ r z) (tr_ (su_ aa z) (tr_ (su_ ah z) (tr_ (su_ ai z) (tr_ (su_ ab z) (tr_ (su_ ae z) (tr_ (su_ ac z) (tr_ (su_ ar z) (tr_ (su_ au z) (su_ av z))))))))))))))))
     refine WL.buildSlice (O := cX) (R := (frR rep_api_Fld w.heap.size)) (vals := [(0, ag [vi M.Num, vi M.Type_, vu M.V, (vl aK aL aM)])]) 19 [vi M.Num, vi M.Type_, vu M.V, (vl aK aL aM)] (xs := [M]) (by decide) ty66 ty68 (show 0 < rep_api_Fld.n by decide) (show 1 * rep_api_Fld.n ≤ 65536 by decide) (fe_ z) (by kernel_rfl) z ⟨[vi M.Num, vi M.Type_, vu M.V, (vl aK aL aM)], [], z, ⟨[vi M.Num], [vi M.Type_, vu M.V, (vl aK aL aM)], z, z, ⟨[vi M.Type_], [vu M.V, (vl aK aL aM)], z, z, ⟨[vu M.V], [(vl aK aL aM)], z, z, ⟨_, z, (Sl.frB ek em low0)⟩⟩⟩⟩, z⟩ z ?_
     intro jh ji iG a5 en
     refine nl (At.dq (tr_ (su_ av z) (su_ a5 z)) (WD.heavy 10 z (by kernel_rfl) ?_))
     obtain ⟨eo, cY, h⟩ := bnd h
     have eA := ((((((((bh.st ah z z z).st ai z z z).st ab z z z).st ae z z z).st ac z z z).st ar z z z).st au z z z).st av z z z).st a5 z z z
     refine WL.append (by decide) ty66 ty68 z (by decide) z z eA en.src cY z ?_
     intro hx hy iH bt eB
     refine nl (At.dq (su_ bt z) (WD.y 11 z (by kernel_rfl) (fun _ _ _ => ya z) z (WD.done_ (by kernel_rfl) (At.inBlock (th (rg (wY (Y.add_i z z) z (wY (ym z) z (nl ?_)))))))))
     exact At.round (eo, w64 (cO + 1), hy, hx) hj (Nat.lt_succ_self _) ⟨next1 h bP, (tr_ (su_ aa z) (tr_ (su_ ah z) (tr_ (su_ ai z) (tr_ (su_ ab z) (tr_ (su_ ae z) (tr_ (su_ ac z) (tr_ (su_ ar z) (tr_ (su_ au z) (tr_ (su_ av z) (tr_ (su_ a5 z) (su_ bt z))))))))))), eB⟩ (.cons z (.cons z (.cons z (.cons z (.cons z .nil)))))
    ·refine WC.condF' z bi (WC.exit (At.thenX (At.loopX ?_)))
     obtain ⟨hz, cZ, eC⟩ := OwnSl.rlb 1004 rfl bh
     exact At.hitB (σ := (List api_Fld × Own × Value)) (hg, hz, cP) ⟨brk1 h bP, (tr_ (su_ aa z) (su_ cZ z)), eC⟩ (.cons z (.cons z .nil))
   ·rintro ⟨hC, jj, c0⟩ iI ⟨rfl, bu, bY⟩
    replace h := flowK_go dV
    try dsimp only at h bu bY
    refine (show At _ _ _ [(1, pt ak 0), (3, c0)] _ from ?_)
    refine At.inBlockHit ?_
    obtain ⟨hD, c1, eD⟩ := OwnSl.rlb 1006 rfl bY
    exact At.join (σ := (List api_Fld × Own × Value)) (hC, hD, c0) ⟨some1 h, (tr_ (su_ bu z) (su_ c1 z)), eD⟩ (.cons z (.cons z .nil))
  ·rintro ⟨jk, bm, c2⟩ bZ ⟨rfl, D, aX⟩
   replace h := dU
   try dsimp only at h D aX
   refine (show At _ _ _ [(1, pt ak 0), (3, c2)] _ from ?_)
   refine th (sq (sq (rg (wY (yf fo33_2 z) z ?_))))
   have ax := (bM.st r z).st D z
   refine wY (yl ty3 z z (ax.cell 2 _ z)) z (nl (th (WC.block (sq (rg (wY (Y.eql_i z z) z ?_))))))
   obtain ⟨jl, eF, h⟩ := lt1 h
   refine WL.yE (ya z) (congrArg vB eF.symm) z (nl (th ?_))
   rcases cnd h with ⟨bn, h⟩ | ⟨bn, h⟩
   ·refine WC.condT' z bn (rg (wY (ym z) z (wY (yf fo33_9 z) z (wY (yl ty26 z z (ax.cell 9 _ z)) z ?_))))
    obtain ⟨P, eG, h⟩ := bnd h
    refine WL.call (vals := [vi 31, vu a0.Im]) kok86 z z (c_otlp_fix eG) ?_
    rintro iJ b0 ⟨hE, rfl, eH, hF⟩
    obtain ⟨bE, h5, cf, ay⟩ := adoptE bm (fun k => 1) eH
    have b1 : Sl Rep.b b0 (frs bE) hE P.B := Sl.adoptF hF (fun k hk => ⟨hk, z⟩) cf
    have eI := h
    obtain ⟨aN, aO, aP, rfl⟩ := b1.shape
    have h := eI
    have eJ : Stp [12, 16, 18, 1002, 1003, 1004] (Lg.O0 A) w bE b0 := (tr_ (su_ t z) (tr_ (su_ d z) (tr_ (su_ l z) (tr_ (su_ j z) (tr_ (su_ C z) (tr_ (su_ o z) (tr_ (su_ r z) (tr_ (su_ D z) (su_ ay z)))))))))
    refine WL.buildSlice (O := bE) (R := (frR rep_api_Fld w.heap.size)) (vals := [(0, ag [vi P.Num, vi P.Type_, vu P.V, (vl aN aO aP)])]) 20 [vi P.Num, vi P.Type_, vu P.V, (vl aN aO aP)] (xs := [P]) (by decide) ty66 ty68 (show 0 < rep_api_Fld.n by decide) (show 1 * rep_api_Fld.n ≤ 65536 by decide) (fe_ z) (by kernel_rfl) z ⟨[vi P.Num, vi P.Type_, vu P.V, (vl aN aO aP)], [], z, ⟨[vi P.Num], [vi P.Type_, vu P.V, (vl aN aO aP)], z, z, ⟨[vi P.Type_], [vu P.V, (vl aN aO aP)], z, z, ⟨[vu P.V], [(vl aN aO aP)], z, z, ⟨_, z, (Sl.frB b1 eJ low0)⟩⟩⟩⟩, z⟩ z ?_
    intro jm jn iK a6 eK
    obtain ⟨iL, c3, h⟩ := bnd h
    have eM := (aX.st ay z z z).st a6 z z z
    refine WL.append (by decide) ty66 ty68 z (by decide) z z eM eK.src c3 z ?_
    intro hG hH b2 bw eN
    refine wY (ya z) z (nl (At.inBlock (th (sq (rg (wY (ym z) z (wY (ya z) z (nl (th ?_)))))))))
    refine rt ?_
    obtain rfl := some1 h
    have eO : Stp [12, 16, 18, 1002, 1003, 1004, 1006] (Lg.O0 A) w hH b2 := (tr_ (su_ t z) (tr_ (su_ d z) (tr_ (su_ l z) (tr_ (su_ j z) (tr_ (su_ C z) (tr_ (su_ o z) (tr_ (su_ r z) (tr_ (su_ D z) (tr_ (su_ ay z) (tr_ (su_ a6 z) (su_ bw z)))))))))))
    obtain ⟨hI, c4, eP⟩ := OwnSl.giveB rfl eN eO low0
    have eQ : Stp [12, 16, 18, 1002, 1003, 1004, 1006] (Lg.O0 A) w hI b2 := (tr_ (su_ t z) (tr_ (su_ d z) (tr_ (su_ l z) (tr_ (su_ j z) (tr_ (su_ C z) (tr_ (su_ o z) (tr_ (su_ r z) (tr_ (su_ D z) (tr_ (su_ ay z) (tr_ (su_ a6 z) (tr_ (su_ bw z) (su_ c4 z))))))))))))
    exact At.res (.inl z) z (.tmp z .nil) ⟨hG, z, (se_ eQ z z), (Sl.outFb eP)⟩
   ·refine WC.condF' z bn (sq (rg (wY (Y.eql_i z z) z ?_)))
    obtain ⟨jo, eR, h⟩ := lt1 h
    refine WL.yE (ya z) (congrArg vB eR.symm) z (nl (th ?_))
    rcases cnd h with ⟨bo, h⟩ | ⟨bo, h⟩
    ·refine WC.condT' z bo (sq (WC.drawH [1006] [0, 1, 2, 3, 4, 5, 6, 7, 8, 9, 10, 11, 12] bm 13 fmix z (by kernel_rfl) ?_))
     intro iM G
     refine WD.y 0 z (by kernel_rfl) (fun _ _ _ => ym z) z (WD.y 1 z (by kernel_rfl) (fun _ _ _ => yf fo33_10 z) z (WD.y 2 z (by kernel_rfl) (fun _ _ _ => yf fo31_0 z) z (WD.y 3 z (by kernel_rfl) (fun iN jp c5 => have eS := ax.st G z; have eT := eS.st c5 z; yl ty3 z z (eT.cell 10 _ z)) z (WD.y 6 z (by kernel_rfl) (fun _ _ _ => yf fo33_10 z) z (WD.y 7 z (by kernel_rfl) (fun _ _ _ => yf fo31_1 z) z (WD.y 8 z (by kernel_rfl) (fun iO jq c6 => have eU := ax.st G z; have eV := eU.st c6 z; yl ty26 z z (eV.cell 11 _ z)) z (WD.heavy 4 z (by kernel_rfl) ?_)))))))
     obtain ⟨hJ, eW, h⟩ := bnd h
     refine WL.call (vals := [vi a0.Hist.Scale]) kok88 z z (c_pack_Zig eW) ?_
     rintro iP iQ ⟨rfl, eX⟩
     obtain ⟨hK, h6, h7, Q⟩ := adoptE bm (fun k => 1) eX
     refine nl (At.dq (su_ Q z) (WD.heavy 5 z (by kernel_rfl) ?_))
     obtain ⟨S, eY, h⟩ := bnd h
     refine WL.call (vals := [vi 8, vu hJ]) kok61 z z (c_otlp_num eY) ?_
     rintro iR eZ ⟨hL, rfl, e0, hM⟩
     obtain ⟨c7, h8, cg, T⟩ := adoptE hK (fun k => 1) e0
     have e1 : Sl Rep.b eZ (frs c7) hL S.B := Sl.adoptF hM (fun k hk => ⟨hk, z⟩) cg
     refine nl (At.dq (su_ T z) (WD.heavy 9 z (by kernel_rfl) ?_))
     obtain ⟨F, e2, h⟩ := bnd h
     refine WL.call (vals := [vi 9, vu a0.Hist.Zero]) kok61 z z (c_otlp_num e2) ?_
     rintro iS bp ⟨hN, rfl, e5, hO⟩
     obtain ⟨bq, h9, ch, H⟩ := adoptE c7 (fun k => 1) e5
     have b3 : Sl Rep.b bp (frs bq) hN F.B := Sl.adoptF hO (fun k hk => ⟨hk, z⟩) ch
     refine nl (At.dq (su_ H z) (WD.heavy 10 z (by kernel_rfl) ?_))
     have b4 := e1.f H z
     have e6 := h
     obtain ⟨aQ, aR, aS, rfl⟩ := b4.shape
     have h := e6
     have e7 := h
     obtain ⟨ao, ap, aq, rfl⟩ := b3.shape
     have h := e7
     have e8 : Stp [12, 16, 18, 1002, 1003, 1004] (Lg.O0 A) w bq bp := (tr_ (su_ t z) (tr_ (su_ d z) (tr_ (su_ l z) (tr_ (su_ j z) (tr_ (su_ C z) (tr_ (su_ o z) (tr_ (su_ r z) (tr_ (su_ D z) (tr_ (su_ G z) (tr_ (su_ Q z) (tr_ (su_ T z) (su_ H z))))))))))))
     have e9 : Stp [12, 16, 18, 1002, 1003, 1004] (Lg.O0 A) w bq bp := (tr_ (su_ t z) (tr_ (su_ d z) (tr_ (su_ l z) (tr_ (su_ j z) (tr_ (su_ C z) (tr_ (su_ o z) (tr_ (su_ r z) (tr_ (su_ D z) (tr_ (su_ G z) (tr_ (su_ Q z) (tr_ (su_ T z) (su_ H z))))))))))))
     refine WL.buildSlice (O := bq) (R := (frR rep_api_Fld w.heap.size)) (vals := [(0, ag [vi S.Num, vi S.Type_, vu S.V, (vl aQ aR aS)]), (1, ag [vi F.Num, vi F.Type_, vu F.V, (vl ao ap aq)])]) 21 [vi S.Num, vi S.Type_, vu S.V, (vl aQ aR aS), vi F.Num, vi F.Type_, vu F.V, (vl ao ap aq)] (xs := [S, F]) (by decide) ty66 ty68 (show 0 < rep_api_Fld.n by decide) (show 2 * rep_api_Fld.n ≤ 65536 by decide) (fe_ z) (by kernel_rfl) z ⟨[vi S.Num, vi S.Type_, vu S.V, (vl aQ aR aS)], [vi F.Num, vi F.Type_, vu F.V, (vl ao ap aq)], z, ⟨[vi S.Num], [vi S.Type_, vu S.V, (vl aQ aR aS)], z, z, ⟨[vi S.Type_], [vu S.V, (vl aQ aR aS)], z, z, ⟨[vu S.V], [(vl aQ aR aS)], z, z, ⟨_, z, (Sl.frB b4 e8 low0)⟩⟩⟩⟩, ⟨[vi F.Num, vi F.Type_, vu F.V, (vl ao ap aq)], [], z, ⟨[vi F.Num], [vi F.Type_, vu F.V, (vl ao ap aq)], z, z, ⟨[vi F.Type_], [vu F.V, (vl ao ap aq)], z, z, ⟨[vu F.V], [(vl ao ap aq)], z, z, ⟨_, z, (Sl.frB b3 e9 low0)⟩⟩⟩⟩, z⟩⟩ z ?_
     intro jr js iT W fa
     refine nl (At.dq (su_ W z) (WD.heavy 11 z (by kernel_rfl) ?_))
     obtain ⟨iU, c8, h⟩ := bnd h
     have fg := ((((aX.st G z z z).st Q z z z).st T z z z).st H z z z).st W z z z
     refine WL.append (by decide) ty66 ty68 z (by decide) z z fg fa.src c8 z ?_
     intro jt hP iV Z fh
     refine nl (At.dq (su_ Z z) (WD.y 12 z (by kernel_rfl) (fun _ _ _ => ya z) z (WD.done_ (by kernel_rfl) (th (sq (rg (wY (ym z) z (wY (yf fo33_10 z) z (wY (yf fo31_2 z) z ?_)))))))))
     have b5 := (((((ax.st G z).st Q z).st T z).st H z).st W z).st Z z
     refine wY (yL ty29 z z (b5.cells 12 [vi a0.Hist.Pos.Offset, (vl cn co cq)] z) z) z ?_
     have fC := (((((((((((((cl.i t z z).i d z z).i l z z).i j z z).i C z z).i o z z).i r z z).i D z z).i G z z).i Q z z).i T z z).i H z z).i W z z).i Z z z
     obtain ⟨hQ, fD, h⟩ := bnd h
     refine WL.call (vals := [vi 10, ag [vi a0.Hist.Pos.Offset, (vl cn co cq)]]) kok89 z z (c_otlp_side (A := fun _ => True) (a1 := a0.Hist.Pos) (Sl.all fC) fD) ?_
     rintro fF b6 ⟨_, rfl, fG, hR⟩
     obtain ⟨c9, ia, ci, ad⟩ := adoptE hP (fun k => 1) fG
     have fH : Sl rep_api_Fld b6 (frs c9) fF hQ := Sl.adoptF hR (fun k hk => ⟨hk, z⟩) ci
     obtain ⟨iW, da, h⟩ := bnd h
     have fI : Stp [12, 16, 18, 1002, 1003, 1004, 1006] (Lg.O0 A) w c9 b6 := (tr_ (su_ t z) (tr_ (su_ d z) (tr_ (su_ l z) (tr_ (su_ j z) (tr_ (su_ C z) (tr_ (su_ o z) (tr_ (su_ r z) (tr_ (su_ D z) (tr_ (su_ G z) (tr_ (su_ Q z) (tr_ (su_ T z) (tr_ (su_ H z) (tr_ (su_ W z) (tr_ (su_ Z z) (su_ ad z)))))))))))))))
     have fJ := fh.st ad z z z
     refine WL.append (by decide) ty66 ty68 z (by decide) z z fJ (Sl.srcB (Sl.frB fH fI low0)) da z ?_
     intro ju hS iX aj fK
     refine wY (ya z) z (nl (th (rg (wY (ym z) z (wY (yf fo33_10 z) z (wY (yf fo31_3 z) z ?_))))))
     have fN := (b5.st ad z).st aj z
     refine wY (yL ty29 z z (fN.cells 14 [vi a0.Hist.Neg.Offset, (vl cr cs ct)] z) z) z ?_
     have f7 := (((((((((((((((cm.i t z z).i d z z).i l z z).i j z z).i C z z).i o z z).i r z z).i D z z).i G z z).i Q z z).i T z z).i H z z).i W z z).i Z z z).i ad z z).i aj z z
     obtain ⟨hT, f8, h⟩ := bnd h
     refine WL.call (vals := [vi 11, ag [vi a0.Hist.Neg.Offset, (vl cr cs ct)]]) kok89 z z (c_otlp_side (A := fun _ => True) (a1 := a0.Hist.Neg) (Sl.all f7) f8) ?_
     rintro f9 b7 ⟨_, rfl, ga, hU⟩
     obtain ⟨db, ib, cj, az⟩ := adoptE hS (fun k => 1) ga
     have gb : Sl rep_api_Fld b7 (frs db) f9 hT := Sl.adoptF hU (fun k hk => ⟨hk, z⟩) cj
     obtain ⟨iY, dc, h⟩ := bnd h
     have gc : Stp [12, 16, 18, 1002, 1003, 1004, 1006] (Lg.O0 A) w db b7 := (tr_ (su_ t z) (tr_ (su_ d z) (tr_ (su_ l z) (tr_ (su_ j z) (tr_ (su_ C z) (tr_ (su_ o z) (tr_ (su_ r z) (tr_ (su_ D z) (tr_ (su_ G z) (tr_ (su_ Q z) (tr_ (su_ T z) (tr_ (su_ H z) (tr_ (su_ W z) (tr_ (su_ Z z) (tr_ (su_ ad z) (tr_ (su_ aj z) (su_ az z)))))))))))))))))
     have gd := fK.st az z z z
     refine WL.append (by decide) ty66 ty68 z (by decide) z z gd (Sl.srcB (Sl.frB gb gc low0)) dc z ?_
     intro hV hW b8 bx ge
     refine wY (ya z) z (nl (At.inBlock (th (sq (rg (wY (ym z) z (wY (ya z) z (nl (th ?_)))))))))
     refine rt ?_
     obtain rfl := some1 h
     have gf : Stp [12, 16, 18, 1002, 1003, 1004, 1006] (Lg.O0 A) w hW b8 := (tr_ (su_ t z) (tr_ (su_ d z) (tr_ (su_ l z) (tr_ (su_ j z) (tr_ (su_ C z) (tr_ (su_ o z) (tr_ (su_ r z) (tr_ (su_ D z) (tr_ (su_ G z) (tr_ (su_ Q z) (tr_ (su_ T z) (tr_ (su_ H z) (tr_ (su_ W z) (tr_ (su_ Z z) (tr_ (su_ ad z) (tr_ (su_ aj z) (tr_ (su_ az z) (su_ bx z))))))))))))))))))
     obtain ⟨hX, dd, gg⟩ := OwnSl.giveB rfl ge gf low0
     have gh : Stp [12, 16, 18, 1002, 1003, 1004, 1006] (Lg.O0 A) w hX b8 := (tr_ (su_ t z) (tr_ (su_ d z) (tr_ (su_ l z) (tr_ (su_ j z) (tr_ (su_ C z) (tr_ (su_ o z) (tr_ (su_ r z) (tr_ (su_ D z) (tr_ (su_ G z) (tr_ (su_ Q z) (tr_ (su_ T z) (tr_ (su_ H z) (tr_ (su_ W z) (tr_ (su_ Z z) (tr_ (su_ ad z) (tr_ (su_ aj z) (tr_ (su_ az z) (tr_ (su_ bx z) (su_ dd z)))))))))))))))))))
     exact At.res (.inl z) z (.tmp z .nil) ⟨hV, z, (se_ gh z z), (Sl.outFb gg)⟩
    ·refine WC.condF' z bo (sk (At.inBlock (th (sq (rg (wY (ym z) z (wY (ya z) z (nl (th ?_)))))))))
     refine rt ?_
     obtain rfl := some1 h
     have gi : Stp [12, 16, 18, 1002, 1003, 1004] (Lg.O0 A) w bm bZ := (tr_ (su_ t z) (tr_ (su_ d z) (tr_ (su_ l z) (tr_ (su_ j z) (tr_ (su_ C z) (tr_ (su_ o z) (tr_ (su_ r z) (su_ D z))))))))
     obtain ⟨hY, de, gj⟩ := OwnSl.giveB rfl aX gi low0
     have gk : Stp [12, 16, 18, 1002, 1003, 1004, 1006] (Lg.O0 A) w hY bZ := (tr_ (su_ t z) (tr_ (su_ d z) (tr_ (su_ l z) (tr_ (su_ j z) (tr_ (su_ C z) (tr_ (su_ o z) (tr_ (su_ r z) (tr_ (su_ D z) (su_ de z)))))))))
     exact At.res (.inl z) z (.tmp z .nil) ⟨c2, z, (se_ gk z z), (Sl.outFb gj)⟩
theorem c_otlp_data {a0 : Int} {w : World} {r0 : Int} (h : otlp_data a0 = some r0) : Rets Try.prog 63 [vi a0] w (fun v w' => v = vi r0 ∧ Ext w w') := by
 unfold otlp_data at h
 refine Rets.enter Try.func63 z z ?_
 refine (show WC _ _ _ _ [(0, vi a0)] _ from ?_)
 refine sq (rg (wY (ya z) z (nl (th (sq (sq (rg (wY (ym z) z (nl ?_)))))))))
 refine th (WC.block (sq (rg (wY (Y.eql_i z z) z ?_))))
 obtain ⟨G, o, h⟩ := lt1 h
 refine WL.yE (ya z) (congrArg vB o.symm) z (nl (th ?_))
 rcases cnd h with ⟨d, h⟩ | ⟨d, h⟩
 ·refine WC.condT' z d (sq (rg (wY (ya z) z (nl (th (rt (At.inBlockR (At.thenR ?_))))))))
  obtain rfl := some1 h
  have r : Stp [] (Lg.O0 (fun _ => False)) w (Lg.O0 (fun _ => False)) w := (sr_ _ _ _)
  exact At.res (.inl z) z (.tmp z .nil) ⟨z, (se_ r z z)⟩
 ·refine WC.condF' z d (sq (rg (wY (Y.eql_i z z) z ?_)))
  obtain ⟨H, t, h⟩ := lt1 h
  refine WL.yE (ya z) (congrArg vB t.symm) z (nl (th ?_))
  rcases cnd h with ⟨j, h⟩ | ⟨j, h⟩
  ·refine WC.condT' z j (sq (rg (wY (ya z) z (nl (th (rt (At.inBlockR (At.thenR ?_))))))))
   obtain rfl := some1 h
   have C : Stp [] (Lg.O0 (fun _ => False)) w (Lg.O0 (fun _ => False)) w := (sr_ _ _ _)
   exact At.res (.inl z) z (.tmp z .nil) ⟨z, (se_ C z z)⟩
  ·refine WC.condF' z j (sq (rg (wY (Y.eql_i z z) z ?_)))
   obtain ⟨I, D, h⟩ := lt1 h
   refine WL.yE (ya z) (congrArg vB D.symm) z (nl (th ?_))
   rcases cnd h with ⟨l, h⟩ | ⟨l, h⟩
   ·refine WC.condT' z l (sq (rg (wY (ya z) z (nl (th (rt (At.inBlockR (At.thenR ?_))))))))
    obtain rfl := some1 h
    have E : Stp [] (Lg.O0 (fun _ => False)) w (Lg.O0 (fun _ => False)) w := (sr_ _ _ _)
    exact At.res (.inl z) z (.tmp z .nil) ⟨z, (se_ E z z)⟩
   ·refine WC.condF' z l (sk (At.inBlock (th (sq (rg (wY (ya z) z (nl (th (rt ?_)))))))))
    obtain rfl := some1 h
    have F : Stp [] (Lg.O0 (fun _ => False)) w (Lg.O0 (fun _ => False)) w := (sr_ _ _ _)
    exact At.res (.inl z) z (.tmp z .nil) ⟨z, (se_ F z z)⟩
theorem c_otlp_metric {A : Nat → Prop} {v0_1 : Value} {v0_13 : Value} {v0_15 : Value} {a0 : api_Point} {w : World} (hs0_1 : Sl rep_api_Pair w A v0_1 a0.Attrs) (hs0_13 : Sl Rep.u w A v0_13 a0.Hist.Pos.Counts) (hs0_15 : Sl Rep.u w A v0_15 a0.Hist.Neg.Counts) {r0 : api_Fld} (h : otlp_metric a0 = some r0) : Rets Try.prog 28 [ag (cp a0 v0_1 v0_13 v0_15)] w (fun v w' => ∃ (aX : Value), v = ag [vi r0.Num, vi r0.Type_, vu r0.V, aX] ∧ Ext w w' ∧ RowF Rep.b 5 w w' aX r0.B) := by
 unfold otlp_metric at h
 refine Rets.enter Try.func28 z z ?_
 have aY : Sl rep_api_Pair w (imm (Lg.O0 A)) v0_1 a0.Attrs := (Sl.start hs0_1)
 have aZ : Sl Rep.u w (imm (Lg.O0 A)) v0_13 a0.Hist.Pos.Counts := (Sl.start hs0_13)
 have a1 : Sl Rep.u w (imm (Lg.O0 A)) v0_15 a0.Hist.Neg.Counts := (Sl.start hs0_15)
 refine (show WC _ _ _ _ [(0, ag (cp a0 v0_1 v0_13 v0_15))] _ from ?_)
 refine sq (rg ?_)
 have c7 := h
 obtain ⟨a2, a3, a4, rfl⟩ := aY.shape
 have h := c7
 have c8 := h
 obtain ⟨a5, a6, a7, rfl⟩ := aZ.shape
 have h := c8
 have c9 := h
 obtain ⟨a8, a9, ba, rfl⟩ := a1.shape
 have h := c9
 refine WL.box (O := (Lg.O0 A)) 11 (cp a0 (vl a2 a3 a4) (vl a5 a6 a7) (vl a8 a9 ba)) z z z ?_
 intro aH d1 ex G da
 refine WL.alloc (O := d1) 12 [vi 0, vi 0, vu 0, sn] ty68 z z ?_
 intro aI d2 ey D db
 refine nl (th (sq (rg ?_)))
 have ai := da.st D z
 refine wY (yL ty33 z z (ai.cells 0 (cp a0 (vl a2 a3 a4) (vl a5 a6 a7) (vl a8 a9 ba)) z) z) z ?_
 have dd := (aY.i G z z).i D z z
 have df := (aZ.i G z z).i D z z
 have dh := (a1.i G z z).i D z z
 obtain ⟨d3, di, h⟩ := bnd h
 refine WL.call (vals := [ag (cp a0 (vl a2 a3 a4) (vl a5 a6 a7) (vl a8 a9 ba))]) kok60 z z (c_otlp_fields (A := fun _ => True) (a0 := a0) (Sl.all dd) (Sl.all df) (Sl.all dh) di) ?_
 rintro bb dj ⟨_, rfl, dk, d4⟩
 obtain ⟨c1, d5, bc, o⟩ := adoptE d2 (fun k => 1) dk
 have dl : Sl rep_api_Fld dj (frs c1) bb d3 := Sl.adoptF d4 (fun k hk => ⟨hk, z⟩) bc
 obtain ⟨C, dm, h⟩ := bnd h
 refine WL.call (vals := [vi 1, bb]) kok30 z z (c_otlp_sub (A := fun _ => True) (Sl.all dl) dm) ?_
 rintro ez bd ⟨c2, rfl, dn, d6⟩
 obtain ⟨d7, d8, bf, r⟩ := adoptE c1 (fun k => if ob c2 = some k then 13 else 1) dn
 have bg : OwnSl 13 Rep.b 5 d7 bd c2 C.B := RowF.adopt 13 Flat.b d6 bf (fun k hk => if_pos hk)
 have dp := h
 obtain ⟨ao, ap, aq, rfl⟩ := bg.shape
 have h := dp
 obtain ⟨c3, t, dr⟩ := OwnSl.giveF rfl Flat.b bg
 have ds : Stp [13] (Lg.O0 A) w c3 bd := (tr_ (su_ G z) (tr_ (su_ D z) (tr_ (su_ o z) (tr_ (su_ r z) (su_ t z)))))
 refine WL.buildSlice (O := c3) (R := (frR rep_api_Fld w.heap.size)) (vals := [(0, ag [vi C.Num, vi C.Type_, vu C.V, (vl ao ap aq)])]) 14 [vi C.Num, vi C.Type_, vu C.V, (vl ao ap aq)] (xs := [C]) (by decide) ty66 ty68 (show 0 < rep_api_Fld.n by decide) (show 1 * rep_api_Fld.n ≤ 65536 by decide) (fe_ z) (by kernel_rfl) z ⟨[vi C.Num, vi C.Type_, vu C.V, (vl ao ap aq)], [], z, ⟨[vi C.Num], [vi C.Type_, vu C.V, (vl ao ap aq)], z, z, ⟨[vi C.Type_], [vu C.V, (vl ao ap aq)], z, z, ⟨[vu C.V], [(vl ao ap aq)], z, z, ⟨_, z, (Sl.frB dr ds low0)⟩⟩⟩⟩, z⟩ z ?_
 intro d9 c4 dt E bh
 refine wY (ya z) z (nl (th (sq ?_)))
 obtain ⟨ea, h, du⟩ := bnd h
 refine WC.join (σ := (List api_Fld × Own × Value)) (fun x w' => x.1 = ea ∧ Stp [14] c4 dt x.2.1 w' ∧ OwnSl 1002 (frR rep_api_Fld w.heap.size) 68 x.2.1 w' x.2.2 x.1) (fun x => [(1, pt aH 0), (2, pt aI 0), (3, x.2.2)]) ?_ ?_
 ·refine sq (rg (wY (yf fo33_3 z) z ?_))
  have bi := (((ai.st o z).st r z).st t z).st E z
  refine wY (yl ty3 z z (bi.cell 3 _ z)) z (wY (Y.neq_i z z) z (nl (th ?_)))
  rcases cnd h with ⟨aC, h⟩ | ⟨aC, h⟩
  ·refine WC.condT' z aC (rg (wY (ym z) z (wY (yf fo33_3 z) z (wY (yl ty3 z z (bi.cell 3 _ z)) z (wY (Y.sub_i z z) z (wY (Y.conv_iu ty3.u ty26.u z) z ?_))))))
   obtain ⟨F, dz, h⟩ := bnd h
   refine WL.call (vals := [vi 2, vu (toU64 (w64 (3 - a0.Temp)))]) kok61 z z (c_otlp_num dz) ?_
   rintro eA bj ⟨eb, rfl, dA, ec⟩
   obtain ⟨aD, dU, aR, aj⟩ := adoptE c4 (fun k => 1) dA
   have aJ : Sl Rep.b bj (frs aD) eb F.B := Sl.adoptF ec (fun k hk => ⟨hk, z⟩) aR
   have bC := h
   obtain ⟨X, Z, aa, rfl⟩ := aJ.shape
   have h := bC
   have bD : Stp [13] (Lg.O0 A) w aD bj := (tr_ (su_ G z) (tr_ (su_ D z) (tr_ (su_ o z) (tr_ (su_ r z) (tr_ (su_ t z) (tr_ (su_ E z) (su_ aj z)))))))
   refine WL.buildSlice (O := aD) (R := (frR rep_api_Fld w.heap.size)) (vals := [(0, ag [vi F.Num, vi F.Type_, vu F.V, (vl X Z aa)])]) 15 [vi F.Num, vi F.Type_, vu F.V, (vl X Z aa)] (xs := [F]) (by decide) ty66 ty68 (show 0 < rep_api_Fld.n by decide) (show 1 * rep_api_Fld.n ≤ 65536 by decide) (fe_ z) (by kernel_rfl) z ⟨[vi F.Num, vi F.Type_, vu F.V, (vl X Z aa)], [], z, ⟨[vi F.Num], [vi F.Type_, vu F.V, (vl X Z aa)], z, z, ⟨[vi F.Type_], [vu F.V, (vl X Z aa)], z, z, ⟨[vu F.V], [(vl X Z aa)], z, z, ⟨_, z, (Sl.frB aJ bD low0)⟩⟩⟩⟩, z⟩ z ?_
   intro eB eC ee az bE
   obtain ⟨bG, bk, h⟩ := bnd h
   have bI := (bh.st aj z z z).st az z z z
   refine WL.append (by decide) ty66 ty68 z (by decide) z z bI bE.src bk z ?_
   intro dB eD ef bl bJ
   refine wY (ya z) z (nl ?_)
   obtain ⟨dC, bm, bK⟩ := OwnSl.rlb 1002 rfl bJ
   exact At.join (σ := (List api_Fld × Own × Value)) (bG, dC, dB) ⟨some1 h, (tr_ (su_ aj z) (tr_ (su_ az z) (tr_ (su_ bl z) (su_ bm z)))), bK⟩ (.cons z (.cons z (.cons z .nil)))
  ·refine WC.condF' z aC (sk ?_)
   obtain ⟨dD, bn, bL⟩ := OwnSl.rlb 1002 rfl bh
   exact At.join (σ := (List api_Fld × Own × Value)) ([C], dD, d9) ⟨some1 h, (su_ bn z), bL⟩ (.cons z (.cons z (.cons z .nil)))
 ·rintro ⟨ed, c5, c6⟩ dE ⟨rfl, H, aE⟩
  replace h := du
  try dsimp only at h H aE
  refine (show At _ _ _ [(1, pt aH 0), (2, pt aI 0), (3, c6)] _ from ?_)
  refine th (sq ?_)
  obtain ⟨dF, h, bM⟩ := bnd h
  refine WC.join (σ := (List api_Fld × Own × Value)) (fun x w' => x.1 = dF ∧ Stp [1002] c5 dE x.2.1 w' ∧ OwnSl 1004 (frR rep_api_Fld w.heap.size) 68 x.2.1 w' x.2.2 x.1) (fun x => [(1, pt aH 0), (2, pt aI 0), (3, x.2.2)]) ?_ ?_
  ·refine sq (rg (wY (yf fo33_4 z) z ?_))
   have bS := ((((ai.st o z).st r z).st t z).st E z).st H z
   refine wY (yl ty4 z z (bS.cell 4 _ z)) z (nl (th ?_))
   rcases cnd h with ⟨ar, h⟩ | ⟨ar, h⟩
   ·refine WC.condT' z ar (rg (wY (ym z) z ?_))
    obtain ⟨j, bT, h⟩ := bnd h
    refine WL.call (vals := [vi 3, vu 1]) kok61 z z (c_otlp_num bT) ?_
    rintro eg aK ⟨dG, rfl, bU, dH⟩
    obtain ⟨aF, dV, aS, ak⟩ := adoptE c5 (fun k => 1) bU
    have aL : Sl Rep.b aK (frs aF) dG j.B := Sl.adoptF dH (fun k hk => ⟨hk, z⟩) aS
    have bW := h
    obtain ⟨ab, ac, ad, rfl⟩ := aL.shape
    have h := bW
    have bX : Stp [13, 14] (Lg.O0 A) w aF aK := (tr_ (su_ G z) (tr_ (su_ D z) (tr_ (su_ o z) (tr_ (su_ r z) (tr_ (su_ t z) (tr_ (su_ E z) (tr_ (su_ H z) (su_ ak z))))))))
    refine WL.buildSlice (O := aF) (R := (frR rep_api_Fld w.heap.size)) (vals := [(0, ag [vi j.Num, vi j.Type_, vu j.V, (vl ab ac ad)])]) 16 [vi j.Num, vi j.Type_, vu j.V, (vl ab ac ad)] (xs := [j]) (by decide) ty66 ty68 (show 0 < rep_api_Fld.n by decide) (show 1 * rep_api_Fld.n ≤ 65536 by decide) (fe_ z) (by kernel_rfl) z ⟨[vi j.Num, vi j.Type_, vu j.V, (vl ab ac ad)], [], z, ⟨[vi j.Num], [vi j.Type_, vu j.V, (vl ab ac ad)], z, z, ⟨[vi j.Type_], [vu j.V, (vl ab ac ad)], z, z, ⟨[vu j.V], [(vl ab ac ad)], z, z, ⟨_, z, (Sl.frB aL bX low0)⟩⟩⟩⟩, z⟩ z ?_
    intro eE eF eh aA bY
    obtain ⟨bZ, bo, h⟩ := bnd h
    have b1 := (aE.st ak z z z).st aA z z z
    refine WL.append (by decide) ty66 ty68 z (by decide) z z b1 bY.src bo z ?_
    intro dI eG ei bp b2
    refine wY (ya z) z (nl ?_)
    obtain ⟨dJ, bq, b3⟩ := OwnSl.rlb 1004 rfl b2
    exact At.join (σ := (List api_Fld × Own × Value)) (bZ, dJ, dI) ⟨some1 h, (tr_ (su_ ak z) (tr_ (su_ aA z) (tr_ (su_ bp z) (su_ bq z)))), b3⟩ (.cons z (.cons z (.cons z .nil)))
   ·refine WC.condF' z ar (sk ?_)
    obtain ⟨dK, br, b4⟩ := OwnSl.rlb 1004 rfl aE
    exact At.join (σ := (List api_Fld × Own × Value)) (ed, dK, c6) ⟨some1 h, (su_ br z), b4⟩ (.cons z (.cons z (.cons z .nil)))
  ·rintro ⟨eH, bs, bt⟩ ej ⟨rfl, I, aM⟩
   replace h := bM
   try dsimp only at h I aM
   refine (show At _ _ _ [(1, pt aH 0), (2, pt aI 0), (3, bt)] _ from ?_)
   refine th (sq (WC.drawH [17] [0, 1, 2, 3, 4, 5, 6, 7, 8, 9] bs 11 fmix z (by kernel_rfl) ?_))
   intro ek J
   refine WD.y 0 z (by kernel_rfl) (fun _ _ _ => yf fo33_0 z) z (WD.y 1 z (by kernel_rfl) (fun em eI bu => have b5 := ai.st o z; have b6 := b5.st r z; have b7 := b6.st t z; have b8 := b7.st E z; have b9 := b8.st H z; have ca := b9.st I z; have cb := ca.st J z; have cc := cb.st bu z; yl ty9 z z (cc.cell 0 _ z)) z (WD.y 3 z (by kernel_rfl) (fun _ _ _ => yf fo33_2 z) z (WD.y 4 z (by kernel_rfl) (fun en eJ bw => have cd := ai.st o z; have ce := cd.st r z; have cf := ce.st t z; have cg := cf.st E z; have ch := cg.st H z; have ci := ch.st I z; have cj := ci.st J z; have ck := cj.st bw z; yl ty3 z z (ck.cell 2 _ z)) z (WD.y 6 z (by kernel_rfl) (fun _ _ _ => ym z) z (WD.heavy 2 z (by kernel_rfl) ?_)))))
   obtain ⟨l, cl, h⟩ := bnd h
   refine WL.call (vals := [vi 1, vs a0.Name]) kok62 z z (c_otlp_text cl) ?_
   rintro eo cm ⟨dL, rfl, cn, dM⟩
   obtain ⟨bx, dW, aT, P⟩ := adoptE bs (fun k => 1) cn
   have co : Sl Rep.b cm (frs bx) dL l.B := Sl.adoptF dM (fun k hk => ⟨hk, z⟩) aT
   refine nl (At.dq (su_ P z) (WD.heavy 5 z (by kernel_rfl) ?_))
   obtain ⟨dN, cq, h⟩ := bnd h
   refine WL.call (vals := [vi a0.Kind]) kok63 z z (c_otlp_data cq) ?_
   rintro ep er ⟨rfl, cr⟩
   obtain ⟨dO, dX, dY, K⟩ := adoptE bx (fun k => 1) cr
   refine nl (At.dq (su_ K z) (WD.heavy 7 z (by kernel_rfl) ?_))
   have cu := ((aM.st J z z z).st P z z z).st K z z z
   obtain ⟨d, cw, h⟩ := bnd h
   refine WL.call (vals := [vi dN, bt]) kok30 z z (c_otlp_sub (A := fun _ => True) (Sl.unfr cu.src.sl) cw) ?_
   rintro et au ⟨bz, rfl, cx, dP⟩
   obtain ⟨dQ, dZ, aU, Q⟩ := adoptE dO (fun k => if ob bz = some k then 17 else 1) cx
   have aN : OwnSl 17 Rep.b 5 dQ au bz d.B := RowF.adopt 17 Flat.b dP aU (fun k hk => if_pos hk)
   refine nl (At.dq (su_ Q z) (WD.heavy 8 z (by kernel_rfl) ?_))
   have aO := (co.f K z).f Q z
   have cz := h
   obtain ⟨ae, af, ah, rfl⟩ := aO.shape
   have h := cz
   have cA := h
   obtain ⟨T, U, W, rfl⟩ := aN.shape
   have h := cA
   obtain ⟨aG, S, cC⟩ := OwnSl.giveF rfl Flat.b aN
   have cD := aO.f S z
   have cE : Stp [13, 14, 17, 1002] (Lg.O0 A) w aG au := (tr_ (su_ G z) (tr_ (su_ D z) (tr_ (su_ o z) (tr_ (su_ r z) (tr_ (su_ t z) (tr_ (su_ E z) (tr_ (su_ H z) (tr_ (su_ I z) (tr_ (su_ J z) (tr_ (su_ P z) (tr_ (su_ K z) (tr_ (su_ Q z) (su_ S z)))))))))))))
   have cF : Stp [13, 14, 17, 1002] (Lg.O0 A) w aG au := (tr_ (su_ G z) (tr_ (su_ D z) (tr_ (su_ o z) (tr_ (su_ r z) (tr_ (su_ t z) (tr_ (su_ E z) (tr_ (su_ H z) (tr_ (su_ I z) (tr_ (su_ J z) (tr_ (su_ P z) (tr_ (su_ K z) (tr_ (su_ Q z) (su_ S z)))))))))))))
   refine WL.buildSlice (O := aG) (R := (frR rep_api_Fld w.heap.size)) (vals := [(0, ag [vi l.Num, vi l.Type_, vu l.V, (vl ae af ah)]), (1, ag [vi d.Num, vi d.Type_, vu d.V, (vl T U W)])]) 18 [vi l.Num, vi l.Type_, vu l.V, (vl ae af ah), vi d.Num, vi d.Type_, vu d.V, (vl T U W)] (xs := [l, d]) (by decide) ty66 ty68 (show 0 < rep_api_Fld.n by decide) (show 2 * rep_api_Fld.n ≤ 65536 by decide) (fe_ z) (by kernel_rfl) z ⟨[vi l.Num, vi l.Type_, vu l.V, (vl ae af ah)], [vi d.Num, vi d.Type_, vu d.V, (vl T U W)], z, ⟨[vi l.Num], [vi l.Type_, vu l.V, (vl ae af ah)], z, z, ⟨[vi l.Type_], [vu l.V, (vl ae af ah)], z, z, ⟨[vu l.V], [(vl ae af ah)], z, z, ⟨_, z, (Sl.frB cD cE low0)⟩⟩⟩⟩, ⟨[vi d.Num, vi d.Type_, vu d.V, (vl T U W)], [], z, ⟨[vi d.Num], [vi d.Type_, vu d.V, (vl T U W)], z, z, ⟨[vi d.Type_], [vu d.V, (vl T U W)], z, z, ⟨[vu d.V], [(vl T U W)], z, z, ⟨_, z, (Sl.frB cC cF low0)⟩⟩⟩⟩, z⟩⟩ z ?_
   intro dR dS eu al cG
   refine nl (At.dq (tr_ (su_ S z) (su_ al z)) (WD.heavy 9 z (by kernel_rfl) ?_))
   obtain ⟨M, cH, h⟩ := bnd h
   refine WL.call (vals := [vi 2, dR]) kok30 z z (c_otlp_sub (A := fun _ => True) (Sl.unfr cG.src.sl) cH) ?_
   rintro ew cI ⟨bA, rfl, cJ, dT⟩
   obtain ⟨bB, d0, aW, am⟩ := adoptE dS (fun k => if ob bA = some k then 19 else 1) cJ
   have aP : OwnSl 19 Rep.b 5 bB cI bA M.B := RowF.adopt 19 Flat.b dT aW (fun k hk => if_pos hk)
   refine nl (At.dq (su_ am z) (WD.phase [12] [0, 1, 2, 3, 4, 5, 6, 7, 8, 9, 10] (by kernel_rfl) (by kernel_rfl) (WD.heavy 10 z (by kernel_rfl) ?_)))
   have cK := h
   obtain ⟨av, ax, ay, rfl⟩ := aP.shape
   have h := cK
   have cX := ((((((((((((db.st o z).st r z).st t z).st E z).st H z).st I z).st J z).st P z).st K z).st Q z).st S z).st al z).st am z
   refine WL.store (v := ag [vi M.Num, vi M.Type_, vu M.V, (vl av ax ay)]) (cells' := [vi M.Num, vi M.Type_, vu M.V, (vl av ax ay)]) ty68 z z cX z (le_ z) z z ?_
   intro cY an cZ
   refine nl (At.dq (su_ an z) (WD.done_ (by kernel_rfl) (th (rt ?_))))
   obtain rfl := some1 h
   have aQ : Stp [12, 13, 14, 17, 1002] (Lg.O0 A) w bB cY := (tr_ (su_ G z) (tr_ (su_ D z) (tr_ (su_ o z) (tr_ (su_ r z) (tr_ (su_ t z) (tr_ (su_ E z) (tr_ (su_ H z) (tr_ (su_ I z) (tr_ (su_ J z) (tr_ (su_ P z) (tr_ (su_ K z) (tr_ (su_ Q z) (tr_ (su_ S z) (tr_ (su_ al z) (tr_ (su_ am z) (su_ an z))))))))))))))))
   have c0 := aP.st an z z z
   exact At.res (.inl z) z (.cell z (cZ.runAg 0 [vi M.Num, vi M.Type_, vu M.V, (vl av ax ay)] ty68 z z z) .nil) ⟨(vl av ax ay), z, (se_ aQ z z), (OwnSl.outF c0 aQ low0 z)⟩
theorem c_otlp_Encode {A : Nat → Prop} {a0 : List api_Point} {v0 : Value} {w : World} (hs0 : Sl rep_api_Point w A v0 a0) {r0 : List UInt8} {r1 : Int} (h : otlp_Encode a0 = some (r0, r1)) : Rets Try.prog 15 [v0] w (fun v w' => ∃ (u0 : Value), v = tp [u0, vi r1] ∧ Ext w w' ∧ RowF Rep.b 5 w w' u0 r0) := by
 unfold otlp_Encode at h
 refine Rets.enter Try.func15 z z ?_
 have aN : Sl rep_api_Point w (imm (Lg.O0 A)) v0 a0 := (Sl.start hs0)
 refine (show WC _ _ _ _ [(0, v0)] _ from ?_)
 refine sq (rg (wY (ya z) z (wY (ya z) z (nl (th (sq (rg (wY (ya z) z (nl ?_)))))))))
 refine th (sq (sq (rg (wY (ym z) z (wY (Y.len ty22 z aN) z (wY (ym z) z (nl (th ?_))))))))
 obtain ⟨cH, h, aO⟩ := flow1 h
 refine WC.join (σ := (List api_Fld × Own × Value)) (fun x w' => cH = .go x.1 ∧ Stp [11, 12, 1001, 1002, 1003] (Lg.O0 A) w x.2.1 w' ∧ OwnSl 1005 (frR rep_api_Fld w.heap.size) 68 x.2.1 w' x.2.2 x.1) (fun x => [(4, x.2.2)]) ?_ ?_
 ·refine WC.block ?_
  obtain ⟨bU, h, aP⟩ := flow1 h
  obtain ⟨bW, h⟩ := loop_some h
  refine WC.joinB 0 (σ := (List api_Fld × Own × Value)) (fun x w' => bU = .go x.1 ∧ Stp [11, 12, 1001, 1002] (Lg.O0 A) w x.2.1 w' ∧ OwnSl 1003 (frR rep_api_Fld w.heap.size) 68 x.2.1 w' x.2.2 x.1) (fun x => [(4, x.2.2)]) ?_ ?_
  ·refine WC.loop (σ := (List api_Fld × Int × Own × Value)) (fun x k w' => loopN k (otlp_Encode_lp1 a0) (x.1, x.2.1) = some bU ∧ Stp [11, 12, 1001, 1002] (Lg.O0 A) w x.2.2.1 w' ∧ OwnSl 1002 (frR rep_api_Fld w.heap.size) 68 x.2.2.1 w' x.2.2.2 x.1) (fun x => [(4, x.2.2.2), (8, v0), (9, vi (a0.length : Int)), (10, vi x.2.1)]) ([], 0, (Lg.O0 A), sn) bW (.cons z (.cons z (.cons z (.cons z .nil)))) ⟨h, (sr_ _ _ _), (OwnSl.nil 1002 (frR rep_api_Fld w.heap.size) 68)⟩ ?_
   rintro ⟨aH, J, bX, S⟩ bW b3 ⟨h, C, am⟩
   obtain ⟨cI, c7, rfl, h, an⟩ := rnd1 h
   unfold otlp_Encode_lp1 at h
   try dsimp only at h C am
   refine (show WC _ _ _ _ [(4, S), (8, v0), (9, vi (a0.length : Int)), (10, vi J)] _ from ?_)
   refine sq (rg (wY (Y.lss_i z z) z (nl (th (sq ?_)))))
   rcases cnd h with ⟨ao, h⟩ | ⟨ao, h⟩
   ·refine WC.condT' z ao (sk (th (sq ?_)))
    obtain ⟨cJ, h, aQ⟩ := flow1 h
    refine WC.join (σ := (List api_Fld × Own × Value)) (fun x w' => cJ = .go x.1 ∧ Stp [11, 12, 1002] bX b3 x.2.1 w' ∧ OwnSl 1001 (frR rep_api_Fld w.heap.size) 68 x.2.1 w' x.2.2 x.1) (fun x => [(4, x.2.2), (8, v0), (9, vi (a0.length : Int)), (10, vi J)]) ?_ ?_
    ·refine WC.block (sq (rg ?_))
     obtain ⟨o, b4, h⟩ := bnd h
     have b5 := aN.i C z z
     obtain ⟨c8, cP, cQ, cX, b6, b7, b8, ap, bf, b9⟩ := Sl.at2 b5 b4
     obtain ⟨_, _, rfl, rfl, ⟨_, _, rfl, ⟨cK, rfl, ca⟩, ⟨_, _, rfl, rfl, ⟨_, _, rfl, rfl, ⟨_, _, rfl, rfl, ⟨_, _, rfl, rfl, ⟨_, _, rfl, rfl, ⟨_, _, rfl, rfl, ⟨_, _, rfl, rfl, ⟨_, _, rfl, rfl, ⟨_, _, rfl, ⟨_, _, rfl, rfl, ⟨_, _, rfl, rfl, ⟨_, _, rfl, ⟨_, _, rfl, rfl, ⟨cL, rfl, cb⟩⟩, ⟨_, _, rfl, rfl, ⟨cM, rfl, cc⟩⟩⟩⟩⟩, rfl⟩⟩⟩⟩⟩⟩⟩⟩⟩⟩⟩ := bf
     replace ap : CellsAt _ _ _ (cp o cK cL cM) := ap
     have bg := CAt.imm ap b9
     refine wY (Y.indexAddr ty22 ty33 z b6 z b7 b8) z (wY (yL ty33 z z bg.at_ z) z (WL.alloc (O := bX) 11 [vs [], sn, vi 0, vi 0, vB false, vi 0, vi 0, vi 0, vu 0, vu 0, vi 0, vu 0, vi 0, sn, vi 0, sn, vi 0] ty33 z z ?_))
     intro ax cN cY r cd
     have aR := ca.i r z z
     have ce := h
     obtain ⟨T, U, W, rfl⟩ := aR.shape
     have h := ce
     have aS := cb.i r z z
     have cf := h
     obtain ⟨X, Z, aa, rfl⟩ := aS.shape
     have h := cf
     have aT := cc.i r z z
     have cg := h
     obtain ⟨ab, ac, ad, rfl⟩ := aT.shape
     have h := cg
     refine WL.store (v := ag (cp o (vl T U W) (vl X Z aa) (vl ab ac ad))) (cells' := (cp o (vl T U W) (vl X Z aa) (vl ab ac ad))) ty33 z z cd z (le_ z) z z ?_
     intro cZ t aq
     refine nl (th (sq (rg (wY (yL ty33 z z (aq.cells 0 (cp o (vl T U W) (vl X Z aa) (vl ab ac ad)) z) z) z ?_))))
     have aU := aR.i t z z
     have aW := aS.i t z z
     have aX := aT.i t z z
     obtain ⟨M, ch, h⟩ := bnd h
     refine WL.call (vals := [ag (cp o (vl T U W) (vl X Z aa) (vl ab ac ad))]) kok19 z z (c_point_Check (A := fun _ => True) (a0 := o) (Sl.all aU) (Sl.all aW) (Sl.all aX) ch) ?_
     rintro c0 ar ⟨rfl, ci⟩
     obtain ⟨bY, cO, cC, l⟩ := adoptE cN (fun k => 1) ci
     refine wY (ya z) z (nl (th (sq ?_)))
     obtain ⟨cj, h, bh⟩ := bnd h
     refine WC.join (σ := Int) (fun x w' => x = cj ∧ ar = w') (fun x => [(4, S), (6, pt ax 0), (7, vi x), (8, v0), (9, vi (a0.length : Int)), (10, vi J)]) ?_ ?_
     ·refine sq (rg (wY (ym z) z (wY (Y.eql_i z z) z (wY (ym z) z ?_))))
      refine WL.cut 4 (σ := Unit) (fun _ w' => ar = w') (fun _ => [(4, S), (6, pt ax 0), (7, vi M), (8, v0), (9, vi (a0.length : Int)), (10, vi J), (22, vB ((decide (M = 0)) && (!decide (o.Flags = 0))))]) ?_ ?_
      ·refine WL.part 18 z (fun ae => ?_) (fun ae => ?_)
       ·refine ug z z (wY (yf fo33_11 z) z (ug z z ?_))
        have bi := aq.st l z
        refine wY (yl ty3 z z (bi.cell 16 _ z)) z (ug z z (wY (Y.neq_i z z) z (wY (Y.pick (b := true) z z) z (WL.ren (v' := vB ((decide (M = 0)) && (!decide (o.Flags = 0)))) 22 z (congrArg vB (andT ae)) ?_))))
        exact nl (At.join () z (.cons z (.cons z (.cons z (.cons z (.cons z (.cons z (.cons z .nil))))))))
       ·refine WL.gS z z z z (WL.gS z z z z (WL.gS z z z z (wY (Y.pick (b := false) z z) z (WL.ren (v' := vB ((decide (M = 0)) && (!decide (o.Flags = 0)))) 22 z (congrArg vB (andF ae)) ?_))))
        exact nl (At.join () z (.cons z (.cons z (.cons z (.cons z (.cons z (.cons z (.cons z .nil))))))))
      ·rintro _ _ rfl
       refine (show WL _ _ _ _ _ [(4, S), (6, pt ax 0), (7, vi M), (8, v0), (9, vi (a0.length : Int)), (10, vi J), (22, vB ((decide (M = 0)) && (!decide (o.Flags = 0))))] _ from ?_)
       refine nl (th ?_)
       rcases cnd h with ⟨af, h⟩ | ⟨af, h⟩
       ·refine WC.condT' z af (rg (wY (ya z) z (nl ?_)))
        exact At.join (σ := Int) 3 ⟨some1 h, z⟩ (.cons z (.cons z (.cons z (.cons z (.cons z (.cons z .nil))))))
       ·refine WC.condF' z af (sk ?_)
        exact At.join (σ := Int) M ⟨some1 h, z⟩ (.cons z (.cons z (.cons z (.cons z (.cons z (.cons z .nil))))))
     ·rintro ck _ ⟨rfl, rfl⟩
      replace h := bh
      try dsimp only at h
      refine (show At _ _ _ [(4, S), (6, pt ax 0), (7, vi ck), (8, v0), (9, vi (a0.length : Int)), (10, vi J)] _ from ?_)
      refine th (sq (sq (rg (wY (ym z) z (wY (Y.neq_i z z) z (nl (th ?_)))))))
      rcases cnd h with ⟨ah, h⟩ | ⟨ah, h⟩
      ·refine WC.condT' z ah (sq (rg (wY (ym z) z (wY (ya z) z (wY (ya z) z (nl (th (rt (At.thenR ?_)))))))))
       refine At.inBlockR ?_
       have h := outs1 h aQ
       refine At.joinR (At.thenR (At.loopR ?_))
       have h := outr1 h an aP
       refine At.joinBR (At.inBlockR ?_)
       have h := outs1 h aO
       refine At.joinR (At.thenR ?_)
       obtain ⟨rfl, rfl⟩ := tup2 h
       have bj : Stp [11, 12, 1001, 1002] (Lg.O0 A) w bY ar := (tr_ (su_ C z) (tr_ (su_ r z) (tr_ (su_ t z) (su_ l z))))
       exact At.res (.inl z) z (.tmp z (.tmp z .nil)) ⟨sn, z, (se_ bj z z), RowF.nil⟩
      ·refine WC.condF' z ah (sk (th (rg (wY (ym z) z ?_))))
       have bk := aq.st l z
       refine wY (yL ty33 z z (bk.cells 0 (cp o (vl T U W) (vl X Z aa) (vl ab ac ad)) z) z) z ?_
       have bl := aU.i l z z
       have bm := aW.i l z z
       have bn := aX.i l z z
       obtain ⟨d, bo, h⟩ := bnd h
       refine WL.call (vals := [ag (cp o (vl T U W) (vl X Z aa) (vl ab ac ad))]) kok28 z z (c_otlp_metric (A := fun _ => True) (a0 := o) (Sl.all bl) (Sl.all bm) (Sl.all bn) bo) ?_
       rintro cR ay ⟨aY, rfl, bp, cl⟩
       obtain ⟨cm, cD, aI, P⟩ := adoptE bY (fun k => if ob aY = some k then 12 else 1) bp
       have az : OwnSl 12 Rep.b 5 cm ay aY d.B := RowF.adopt 12 Flat.b cl aI (fun k hk => if_pos hk)
       have bq := h
       obtain ⟨D, E, F, rfl⟩ := az.shape
       have h := bq
       obtain ⟨aZ, Q, br⟩ := OwnSl.giveF rfl Flat.b az
       have bs : Stp [11, 12, 1001, 1002] (Lg.O0 A) w aZ ay := (tr_ (su_ C z) (tr_ (su_ r z) (tr_ (su_ t z) (tr_ (su_ l z) (tr_ (su_ P z) (su_ Q z))))))
       refine WL.buildSlice (O := aZ) (R := (frR rep_api_Fld w.heap.size)) (vals := [(0, ag [vi d.Num, vi d.Type_, vu d.V, (vl D E F)])]) 13 [vi d.Num, vi d.Type_, vu d.V, (vl D E F)] (xs := [d]) (by decide) ty66 ty68 (show 0 < rep_api_Fld.n by decide) (show 1 * rep_api_Fld.n ≤ 65536 by decide) (fe_ z) (by kernel_rfl) z ⟨[vi d.Num, vi d.Type_, vu d.V, (vl D E F)], [], z, ⟨[vi d.Num], [vi d.Type_, vu d.V, (vl D E F)], z, z, ⟨[vi d.Type_], [vu d.V, (vl D E F)], z, z, ⟨[vu d.V], [(vl D E F)], z, z, ⟨_, z, (Sl.frB br bs low0)⟩⟩⟩⟩, z⟩ z ?_
       intro c1 c2 cS aj bt
       obtain ⟨bu, a1, h⟩ := bnd h
       have bC := (((((am.st r z z z).st t z z z).st l z z z).st P z z z).st Q z z z).st aj z z z
       refine WL.append (by decide) ty66 ty68 z (by decide) z z bC bt.src a1 z ?_
       intro cn c3 cT a2 bD
       refine wY (ya z) z (nl (At.inBlock ?_))
       obtain ⟨co, a3, bE⟩ := OwnSl.rlb 1001 rfl bD
       exact At.join (σ := (List api_Fld × Own × Value)) (bu, co, cn) ⟨go2 h, (tr_ (su_ r z) (tr_ (su_ t z) (tr_ (su_ l z) (tr_ (su_ P z) (tr_ (su_ Q z) (tr_ (su_ aj z) (tr_ (su_ a2 z) (su_ a3 z)))))))), bE⟩ (.cons z (.cons z (.cons z (.cons z .nil))))
    ·rintro ⟨aJ, c9, bZ⟩ c4 ⟨rfl, aA, a4⟩
     replace h := flowK_go aQ
     try dsimp only at h aA a4
     refine (show At _ _ _ [(4, bZ), (8, v0), (9, vi (a0.length : Int)), (10, vi J)] _ from ?_)
     refine th (rg (wY (Y.add_i z z) z (wY (ym z) z (nl ?_))))
     obtain ⟨cq, a5, bG⟩ := OwnSl.rlb 1002 rfl a4
     exact At.round (aJ, w64 (J + 1), cq, bZ) cI (Nat.lt_succ_self _) ⟨next1 h an, (tr_ (su_ C z) (tr_ (su_ aA z) (su_ a5 z))), bG⟩ (.cons z (.cons z (.cons z (.cons z .nil))))
   ·refine WC.condF' z ao (WC.exit (At.thenX (At.loopX ?_)))
    obtain ⟨cr, a6, bH⟩ := OwnSl.rlb 1003 rfl am
    exact At.hitB (σ := (List api_Fld × Own × Value)) (aH, cr, S) ⟨brk1 h an, (tr_ (su_ C z) (su_ a6 z)), bH⟩ (.cons z .nil)
  ·rintro ⟨aK, da, b0⟩ c5 ⟨rfl, aC, a7⟩
   replace h := flowK_go aP
   try dsimp only at h aC a7
   refine (show At _ _ _ [(4, b0)] _ from ?_)
   refine At.inBlockHit ?_
   obtain ⟨cs, a8, bI⟩ := OwnSl.rlb 1005 rfl a7
   exact At.join (σ := (List api_Fld × Own × Value)) (aK, cs, b0) ⟨go2 h, (tr_ (su_ aC z) (su_ a8 z)), bI⟩ (.cons z .nil)
 ·rintro ⟨cE, b1, b2⟩ ct ⟨rfl, K, au⟩
  replace h := flowK_go aO
  try dsimp only at h K au
  refine (show At _ _ _ [(4, b2)] _ from ?_)
  refine th (sq (sq (rg (wY (ym z) z (wY (Y.len ty66 z (Sl.unfr au.src.sl)) z (wY (Y.eql_i z z) z (nl (th ?_))))))))
  rcases cnd h with ⟨ai, h⟩ | ⟨ai, h⟩
  ·refine WC.condT' z ai (sq (rg (wY (ya z) z (wY (ya z) z (nl (th (rt (At.thenR ?_))))))))
   obtain ⟨rfl, rfl⟩ := tup2 h
   have bJ : Stp [11, 12, 1001, 1002, 1003] (Lg.O0 A) w b1 ct := (su_ K z)
   exact At.res (.inl z) z (.tmp z (.tmp z .nil)) ⟨sn, z, (se_ bJ z z), RowF.nil⟩
  ·refine WC.condF' z ai (sk (th (sq (rg (wY (ym z) z ?_)))))
   obtain ⟨j, bK, h⟩ := bnd h
   refine WL.call (vals := [vi 1, b2]) kok30 z z (c_otlp_sub (A := fun _ => True) (Sl.unfr au.src.sl) bK) ?_
   rintro cU aD ⟨a9, rfl, bL, cu⟩
   obtain ⟨cw, cF, aL, ak⟩ := adoptE b1 (fun k => if ob a9 = some k then 14 else 1) bL
   have aE : OwnSl 14 Rep.b 5 cw aD a9 j.B := RowF.adopt 14 Flat.b cu aL (fun k hk => if_pos hk)
   have bM := h
   obtain ⟨G, H, I, rfl⟩ := aE.shape
   have h := bM
   obtain ⟨ba, al, bO⟩ := OwnSl.giveF rfl Flat.b aE
   have bP : Stp [11, 12, 14, 1001, 1002, 1003] (Lg.O0 A) w ba aD := (tr_ (su_ K z) (tr_ (su_ ak z) (su_ al z)))
   refine WL.buildSlice (O := ba) (R := (frR rep_api_Fld w.heap.size)) (vals := [(0, ag [vi j.Num, vi j.Type_, vu j.V, (vl G H I)])]) 15 [vi j.Num, vi j.Type_, vu j.V, (vl G H I)] (xs := [j]) (by decide) ty66 ty68 (show 0 < rep_api_Fld.n by decide) (show 1 * rep_api_Fld.n ≤ 65536 by decide) (fe_ z) (by kernel_rfl) z ⟨[vi j.Num, vi j.Type_, vu j.V, (vl G H I)], [], z, ⟨[vi j.Num], [vi j.Type_, vu j.V, (vl G H I)], z, z, ⟨[vi j.Type_], [vu j.V, (vl G H I)], z, z, ⟨[vu j.V], [(vl G H I)], z, z, ⟨_, z, (Sl.frB bO bP low0)⟩⟩⟩⟩, z⟩ z ?_
   intro cx cy cV bb bQ
   obtain ⟨⟨cz, c6⟩, bR, h⟩ := bnd h
   refine WL.call (vals := [cx]) kok29 z z (c_wire_Encode (A := fun _ => True) (Sl.unfr bQ.src.sl) bR) ?_
   rintro cW aF ⟨av, rfl, bS, cA⟩
   obtain ⟨bc, cG, aM, bd⟩ := adoptE cy (fun k => if ob av = some k then 16 else 1) bS
   have bT : OwnSl 16 Rep.b 5 bc aF av cz := RowF.adopt 16 Flat.b cA aM (fun k hk => if_pos hk)
   refine wY (yx z z) z (wY (yx z z) z (wY (ya z) z (wY (ya z) z (nl (th (rt ?_))))))
   obtain ⟨rfl, rfl⟩ := tup2 h
   have aG : Stp [11, 12, 14, 1001, 1002, 1003] (Lg.O0 A) w bc aF := (tr_ (su_ K z) (tr_ (su_ ak z) (tr_ (su_ al z) (tr_ (su_ bb z) (su_ bd z)))))
   exact At.res (.inl z) z (.tmp z (.tmp z .nil)) ⟨av, z, (se_ aG z z), (OwnSl.outF bT aG low0 z)⟩
theorem c_bytes_Clone {A : Nat → Prop} {a0 : List UInt8} {v0 : Value} {w : World} (hs0 : Sl Rep.b w A v0 a0) {r0 : List UInt8} (h : bytes_Clone a0 = some r0) : Rets Try.prog 67 [v0] w (fun v w' => ∃ (u0 : Value), v = u0 ∧ Ext w w' ∧ RowF Rep.b 5 w w' u0 r0) := by
  unfold bytes_Clone at h
  refine Rets.enter Try.func67 z z ?_
  refine (show WC _ _ _ _ [(0, v0)] _ from ?_)
  refine sq (rg (wY (ya z) z (nl (th ?_))))
  refine sq (sq (rg ?_))
  refine wY (ym z) z ?_
  rcases hs0.nilOr with ⟨rfl, rfl⟩ | ⟨q, n, c, rfl⟩
  · refine wY (Y.slnil (p := none) (n := 0) (c := 0) ty45.u z z) z (nl (th ?_))
    refine WC.condT z (sq (rg (wY (ya z) z (nl (th (rt (At.thenR ?_)))))))
    have : r0 = [] := by simpa [app] using h.symm
    subst this
    exact At.res (.inl z) z (.tmp z .nil) ⟨_, z, Ext.refl w, RowF.nil⟩
  · refine wY (Y.slnil (p := some _) ty45.u z z) z (nl (th ?_))
    refine WC.condF z (sk (th ?_))
    refine sq (rg ?_)
    have hs := hs0
    refine WL.buildSlice (O := Lg.O0 A) (R := Rep.b) (vals := []) 11 [] (xs := []) (by decide) ty45 ty5 (by decide) (by decide) (fe_ z) (by kernel_rfl) z z z ?_
    intro v E F d o
    refine wY (ym z) z ?_
    have r := (Sl.start hs).i d z z
    refine WL.append (by decide) ty45 ty5 z (by decide) z z o r.src h z ?_
    intro G C D l t
    refine wY (ya z) z (nl (th (rt ?_)))
    have j : Stp [11] (Lg.O0 A) w C D := (tr_ (su_ d z) l)
    exact At.res (.inl z) z (.tmp z .nil) ⟨_, z, se_ j z z, OwnSl.outF t j low0 z⟩
theorem c_wire_All {A : Nat → Prop} {a0 : List api_Fld} {v0 : Value} {a1 : Int} {w : World} (hs0 : Sl rep_api_Fld w A v0 a0) {r0 : List api_Fld} (h : wire_All a0 a1 = some r0) : Rets Try.prog 31 [v0, vi a1] w (fun v w' => ∃ (u0 : Value), v = u0 ∧ Ext w w' ∧ Sl rep_api_Fld w' (fun k => w.heap.size ≤ k) u0 r0) := by
 unfold wire_All at h
 refine Rets.enter Try.func31 z z ?_
 have U : Sl rep_api_Fld w (imm (Lg.O0 A)) v0 a0 := (Sl.start hs0)
 refine (show WC _ _ _ _ [(0, v0), (1, vi a1)] _ from ?_)
 refine sq (rg (wY (ya z) z (nl (th (sq (rg (wY (ya z) z (nl (th ?_)))))))))
 refine sq (sq (rg (wY (ym z) z (wY (Y.len ty66 z U) z (wY (ym z) z (nl (th (WC.block ?_))))))))
 obtain ⟨aP, h, aX⟩ := flow1 h
 obtain ⟨aQ, h⟩ := loop_some h
 refine WC.joinB 0 (σ := (List api_Fld × Own × Value)) (fun x w' => aP = .go x.1 ∧ Stp [11, 12, 1001, 1002] (Lg.O0 A) w x.2.1 w' ∧ OwnSl 1003 (frR rep_api_Fld w.heap.size) 68 x.2.1 w' x.2.2 x.1) (fun x => [(5, x.2.2)]) ?_ ?_
 ·refine WC.loop (σ := (List api_Fld × Int × Own × Value)) (fun x k w' => loopN k (wire_All_lp1 a0 a1) (x.1, x.2.1) = some aP ∧ Stp [11, 12, 1001, 1002] (Lg.O0 A) w x.2.2.1 w' ∧ OwnSl 1002 (frR rep_api_Fld w.heap.size) 68 x.2.2.1 w' x.2.2.2 x.1) (fun x => [(1, vi a1), (5, x.2.2.2), (8, v0), (9, vi (a0.length : Int)), (10, vi x.2.1)]) ([], 0, (Lg.O0 A), sn) aQ (.cons z (.cons z (.cons z (.cons z (.cons z .nil))))) ⟨h, (sr_ _ _ _), (OwnSl.nil 1002 (frR rep_api_Fld w.heap.size) 68)⟩ ?_
  rintro ⟨P, Q, aR, W⟩ aQ aY ⟨h, o, F⟩
  obtain ⟨bu, bQ, rfl, h, X⟩ := rnd1 h
  unfold wire_All_lp1 at h
  try dsimp only at h o F
  refine (show WC _ _ _ _ [(1, vi a1), (5, W), (8, v0), (9, vi (a0.length : Int)), (10, vi Q)] _ from ?_)
  refine sq (rg (wY (Y.lss_i z z) z (nl (th (sq ?_)))))
  rcases cnd h with ⟨I, h⟩ | ⟨I, h⟩
  ·refine WC.condT' z I (sk (th (sq ?_)))
   obtain ⟨bw, h, aZ⟩ := bnd h
   refine WC.join (σ := (List api_Fld × Own × Value)) (fun x w' => x.1 = bw ∧ Stp [11, 12, 1002] aR aY x.2.1 w' ∧ OwnSl 1001 (frR rep_api_Fld w.heap.size) 68 x.2.1 w' x.2.2 x.1) (fun x => [(1, vi a1), (5, x.2.2), (8, v0), (9, vi (a0.length : Int)), (10, vi Q)]) ?_ ?_
   ·refine WC.block (sq (rg ?_))
    obtain ⟨d, a2, h⟩ := bnd h
    have a3 := U.i o z z
    obtain ⟨bR, bE, bG, bJ, a4, a5, a6, J, ar, a7⟩ := Sl.at2 a3 a2
    obtain ⟨_, _, rfl, rfl, ⟨_, _, rfl, rfl, ⟨_, _, rfl, rfl, ⟨bx, rfl, a8⟩⟩⟩⟩ := ar
    replace J : CellsAt _ _ _ [vi d.Num, vi d.Type_, vu d.V, bx] := J
    have au := CAt.imm J a7
    refine wY (Y.indexAddr ty66 ty68 z a4 z a5 a6) z (wY (yL ty68 z z au.at_ z) z (WL.alloc (O := aR) 11 [vi 0, vi 0, vu 0, sn] ty68 z z ?_))
    intro bS bz bK j a9
    have Z := a8.i j z z
    have ba := h
    obtain ⟨aa, ab, ac, rfl⟩ := Z.shape
    have h := ba
    refine WL.store (v := ag [vi d.Num, vi d.Type_, vu d.V, (vl aa ab ac)]) (cells' := [vi d.Num, vi d.Type_, vu d.V, (vl aa ab ac)]) ty68 z z a9 z (le_ z) z z ?_
    intro bL l K
    refine nl (th (sq (rg (wY (yf fo68_0 z) z (wY (yl ty3 z z (K.cell 0 _ z)) z (wY (ym z) z (wY (Y.eql_i z z) z (nl (th ?_)))))))))
    rcases cnd h with ⟨M, h⟩ | ⟨M, h⟩
    ·refine WC.condT' z M (sq (rg (wY (yf fo68_3 z) z (wY (yl ty45 z z (K.cell 3 _ z)) z ?_))))
     have bb := Z.i l z z
     obtain ⟨aS, bc, h⟩ := bnd h
     refine WL.call (vals := [(vl aa ab ac)]) kok67 z z (c_bytes_Clone (A := fun _ => True) (Sl.all bb) bc) ?_
     rintro ad bd ⟨_, rfl, bf, bA⟩
     obtain ⟨bB, bC, ae, D⟩ := adoptE bz (fun k => if ob ad = some k then 12 else 1) bf
     have af : OwnSl 12 Rep.b 5 bB bd ad aS := RowF.adopt 12 Flat.b bA ae (fun k hk => if_pos hk)
     refine wY (yf fo68_3 z) z ?_
     have bg := h
     obtain ⟨r, t, C, rfl⟩ := af.shape
     have h := bg
     have bh := K.st D z
     refine WL.store (v := (vl r t C)) (cells' := [vi d.Num, vi d.Type_, vu d.V, (vl r t C)]) ty45 z z bh z (le_ z) z z ?_
     intro bi E bj
     refine nl (th (rg (wY (ym z) z (wY (yL ty68 z z (bj.cells 0 [vi d.Num, vi d.Type_, vu d.V, (vl r t C)] z) z) z ?_))))
     have bk := af.st E z z z
     obtain ⟨aT, G, bl⟩ := OwnSl.giveF rfl Flat.b bk
     have bm : Stp [11, 12, 1001, 1002] (Lg.O0 A) w aT bi := (tr_ (su_ o z) (tr_ (su_ j z) (tr_ (su_ l z) (tr_ (su_ D z) (tr_ (su_ E z) (su_ G z))))))
     refine WL.buildSlice (O := aT) (R := (frR rep_api_Fld w.heap.size)) (vals := [(0, ag [vi d.Num, vi d.Type_, vu d.V, (vl r t C)])]) 13 [vi d.Num, vi d.Type_, vu d.V, (vl r t C)] (xs := [(api_Fld.mk d.Num d.Type_ d.V aS)]) (by decide) ty66 ty68 (show 0 < rep_api_Fld.n by decide) (show 1 * rep_api_Fld.n ≤ 65536 by decide) (fe_ z) (by kernel_rfl) z ⟨[vi d.Num, vi d.Type_, vu d.V, (vl r t C)], [], z, ⟨[vi d.Num], [vi d.Type_, vu d.V, (vl r t C)], z, z, ⟨[vi d.Type_], [vu d.V, (vl r t C)], z, z, ⟨[vu d.V], [(vl r t C)], z, z, ⟨_, z, (Sl.frB bl bm low0)⟩⟩⟩⟩, z⟩ z ?_
     intro bT bU bM S bn
     obtain ⟨av, ah, h⟩ := bnd h
     have aD := (((((F.st j z z z).st l z z z).st D z z z).st E z z z).st G z z z).st S z z z
     refine WL.append (by decide) ty66 ty68 z (by decide) z z aD bn.src ah z ?_
     intro bo bO bH ai aE
     refine wY (ya z) z (nl (At.inBlock ?_))
     obtain ⟨bp, aj, aF⟩ := OwnSl.rlb 1001 rfl aE
     exact At.join (σ := (List api_Fld × Own × Value)) (av, bp, bo) ⟨some1 h, (tr_ (su_ j z) (tr_ (su_ l z) (tr_ (su_ D z) (tr_ (su_ E z) (tr_ (su_ G z) (tr_ (su_ S z) (tr_ (su_ ai z) (su_ aj z)))))))), aF⟩ (.cons z (.cons z (.cons z (.cons z (.cons z .nil)))))
    ·refine WC.condF' z M (sk (At.inBlock ?_))
     have aH := (F.st j z z z).st l z z z
     obtain ⟨bq, ak, aI⟩ := OwnSl.rlb 1001 rfl aH
     exact At.join (σ := (List api_Fld × Own × Value)) (P, bq, W) ⟨some1 h, (tr_ (su_ j z) (tr_ (su_ l z) (su_ ak z))), aI⟩ (.cons z (.cons z (.cons z (.cons z (.cons z .nil)))))
   ·rintro ⟨aJ, bW, aU⟩ bP ⟨rfl, T, al⟩
    replace h := aZ
    try dsimp only at h T al
    refine (show At _ _ _ [(1, vi a1), (5, aU), (8, v0), (9, vi (a0.length : Int)), (10, vi Q)] _ from ?_)
    refine th (rg (wY (Y.add_i z z) z (wY (ym z) z (nl ?_))))
    obtain ⟨br, am, aK⟩ := OwnSl.rlb 1002 rfl al
    exact At.round (aJ, w64 (Q + 1), br, aU) bu (Nat.lt_succ_self _) ⟨next1 h X, (tr_ (su_ o z) (tr_ (su_ T z) (su_ am z))), aK⟩ (.cons z (.cons z (.cons z (.cons z (.cons z .nil)))))
  ·refine WC.condF' z I (WC.exit (At.thenX (At.loopX ?_)))
   obtain ⟨bs, an, aL⟩ := OwnSl.rlb 1003 rfl F
   exact At.hitB (σ := (List api_Fld × Own × Value)) (P, bs, W) ⟨brk1 h X, (tr_ (su_ o z) (su_ an z)), aL⟩ (.cons z .nil)
 ·rintro ⟨bI, bD, aW⟩ ao ⟨rfl, H, ap⟩
  replace h := flowK_go aX
  try dsimp only at h H ap
  refine (show At _ _ _ [(5, aW)] _ from ?_)
  refine At.inBlockHit (th (sq (rg (wY (ym z) z (wY (ya z) z (nl (th (rt ?_))))))))
  obtain rfl := some1 h
  have aM : Stp [11, 12, 1001, 1002] (Lg.O0 A) w bD ao := (su_ H z)
  obtain ⟨bt, aq, aN⟩ := OwnSl.giveB rfl ap aM low0
  have aO : Stp [11, 12, 1001, 1002, 1003] (Lg.O0 A) w bt ao := (tr_ (su_ H z) (su_ aq z))
  exact At.res (.inl z) z (.tmp z .nil) ⟨aW, z, (se_ aO z z), (Sl.outFb aN)⟩
theorem c_wire_GetVar {A : Nat → Prop} {a0 : List UInt8} {v0 : Value} {a1 : Int} {w : World} (hs0 : Sl Rep.b w A v0 a0) {r0 : UInt64} {r1 : Int} {r2 : Int} (h : wire_GetVar a0 a1 = some (r0, r1, r2)) : Rets Try.prog 109 [v0, vi a1] w (fun v w' => v = tp [vu r0, vi r1, vi r2] ∧ Ext w w') := by
 unfold wire_GetVar at h
 refine Rets.enter Try.func109 z z ?_
 have M : Sl Rep.b w (imm (Lg.O0 A)) v0 a0 := (Sl.start hs0)
 refine (show WC _ _ _ _ [(0, v0), (1, vi a1)] _ from ?_)
 refine sq (rg (wY (ya (v := vu 0) z) z (wY (ya z) z (wY (ya z) z (nl (th (sq (sq (rg ?_)))))))))
 refine wY (ym z) z (wY (Y.lss_i z z) z (wY (ym z) z ?_))
 refine WL.cut 5 (σ := Unit) (fun _ w' => w = w') (fun _ => [(0, v0), (1, vi a1), (4, vu 0), (16, vB ((decide (a1 < 0)) || (decide ((a0.length : Int) < a1))))]) ?_ ?_
 ·refine WL.part 11 z (fun t => ?_) (fun t => ?_)
  ·refine WL.gS z z z z (WL.gS z z z z (WL.gS z z z z (WL.gS z z z z (wY (Y.pick (b := true) z z) z (WL.ren (v' := vB ((decide (a1 < 0)) || (decide ((a0.length : Int) < a1)))) 16 z (congrArg vB (orT t)) ?_)))))
   exact nl (At.join () z (.cons z (.cons z (.cons z (.cons z .nil)))))
  ·refine ug z z (wY (ym z) z (ug z z (wY (ym z) z (ug z z (wY (Y.len ty45 z M) z (ug z z (wY (Y.gtr_i z z) z (wY (Y.pick (b := false) z z) z (WL.ren (v' := vB ((decide (a1 < 0)) || (decide ((a0.length : Int) < a1)))) 16 z (congrArg vB (orF t)) ?_)))))))))
   exact nl (At.join () z (.cons z (.cons z (.cons z (.cons z .nil)))))
 ·rintro _ _ rfl
  refine (show WL _ _ _ _ _ [(0, v0), (1, vi a1), (4, vu 0), (16, vB ((decide (a1 < 0)) || (decide ((a0.length : Int) < a1))))] _ from ?_)
  refine nl (th ?_)
  rcases cnd h with ⟨C, h⟩ | ⟨C, h⟩
  ·refine WC.condT' z C (sq (rg (wY (ya (v := vu 0) z) z (wY (ya z) z (wY (ya z) z (nl (th (rt (At.thenR ?_)))))))))
   obtain ⟨rfl, rfl, rfl⟩ := tup3 h
   have aa : Stp [] (Lg.O0 A) w (Lg.O0 A) w := (sr_ _ _ _)
   exact At.res (.inl z) z (.tmp z (.tmp z (.tmp z .nil))) ⟨z, (se_ aa z z)⟩
  ·refine WC.condF' z C (sk (th (sq (sq (rg (wY (ym z) z (wY (ym z) z ?_)))))))
   obtain ⟨r, ab, h⟩ := bnd h
   obtain ⟨K, ac, P⟩ := Sl.slice (ρ := [(17, v0), (18, vi a1)]) (x := (.tmp 17)) (lo := (some (.tmp 18))) (hi := none) ty45 ty5 rfl rfl rfl M ab
   refine wY (Y.sub (.cons z (.cons z .nil)) (ac _ _)) z (wY (Y.len ty45 z P) z (wY (ym z) z (nl (th (WC.block ?_)))))
   obtain ⟨X, h, o⟩ := flow1 h
   obtain ⟨Z, h⟩ := loop_some h
   refine WC.joinB 0 (σ := Unit) (fun x w' => X = .go () ∧ w = w') (fun x => []) ?_ ?_
   ·refine WC.loop (σ := (UInt64 × Int)) (fun x k w' => loopN k (wire_GetVar_lp1 r) (x.1, x.2) = some X ∧ w = w') (fun x => [(4, vu x.1), (19, K), (20, vi (r.length : Int)), (21, vi x.2)]) (0, 0) Z (.cons z (.cons z (.cons z (.cons z .nil)))) ⟨h, z⟩ ?_
    rintro ⟨Q, d⟩ Z _ ⟨h, rfl⟩
    obtain ⟨ao, av, rfl, h, l⟩ := rnd1 h
    unfold wire_GetVar_lp1 at h
    try dsimp only at h
    refine (show WC _ _ _ _ [(4, vu Q), (19, K), (20, vi (r.length : Int)), (21, vi d)] _ from ?_)
    refine sq (rg (wY (Y.lss_i z z) z (nl (th (sq ?_)))))
    rcases cnd h with ⟨D, h⟩ | ⟨D, h⟩
    ·refine WC.condT' z D (sk (th (sq (WC.block (sq (rg (wY (ym z) z ?_)))))))
     obtain ⟨j, ad, h⟩ := bnd h
     obtain ⟨ax, ap, aq, ar, ae, af, ah, E, T, ai⟩ := Sl.at2 P ad
     obtain rfl := T
     replace E : CellsAt _ _ _ [vb j] := E
     have U := CAt.imm E ai
     refine wY (Y.indexAddr ty45 ty5 z ae z af ah) z (wY (yl ty5 z z U.at_) z (wY (ya z) z (wY (ya z) z (nl (th (sq (sq (rg (wY (ym z) z ?_)))))))))
     refine wY (Y.eql_i z z) z (wY (ym z) z ?_)
     refine WL.cut 3 (σ := Unit) (fun _ w' => w = w') (fun _ => [(4, vu Q), (7, vi d), (8, vb j), (19, K), (20, vi (r.length : Int)), (21, vi d), (31, vB ((decide (d = 9)) && (decide (1 < j))))]) ?_ ?_
     ·refine WL.part 28 z (fun F => ?_) (fun F => ?_)
      ·refine ug z z (wY (ym z) z (ug z z (wY (Y.gtr_b (b := 1) z z) z (wY (Y.pick (b := true) z z) z (WL.ren (v' := vB ((decide (d = 9)) && (decide (1 < j)))) 31 z (congrArg vB (andT F)) ?_)))))
       exact nl (At.join () z (.cons z (.cons z (.cons z (.cons z (.cons z (.cons z (.cons z .nil))))))))
      ·refine WL.gS z z z z (WL.gS z z z z (wY (Y.pick (b := false) z z) z (WL.ren (v' := vB ((decide (d = 9)) && (decide (1 < j)))) 31 z (congrArg vB (andF F)) ?_)))
       exact nl (At.join () z (.cons z (.cons z (.cons z (.cons z (.cons z (.cons z (.cons z .nil))))))))
     ·rintro _ _ rfl
      refine (show WL _ _ _ _ _ [(4, vu Q), (7, vi d), (8, vb j), (19, K), (20, vi (r.length : Int)), (21, vi d), (31, vB ((decide (d = 9)) && (decide (1 < j))))] _ from ?_)
      refine nl (th ?_)
      rcases cnd h with ⟨G, h⟩ | ⟨G, h⟩
      ·refine WC.condT' z G (sq (rg (wY (ya (v := vu 0) z) z (wY (ya z) z (wY (ya z) z (nl (th (rt (At.thenR ?_)))))))))
       refine At.inBlockR (At.thenR (At.loopR ?_))
       have h := outr1 h l o
       refine At.joinBR (At.inBlockR (At.thenR ?_))
       obtain ⟨rfl, rfl, rfl⟩ := tup3 h
       have aj : Stp [] (Lg.O0 A) w (Lg.O0 A) w := (sr_ _ _ _)
       exact At.res (.inl z) z (.tmp z (.tmp z (.tmp z .nil))) ⟨z, (se_ aj z z)⟩
      ·refine WC.condF' z G (sk (th (sq (rg (wY (ym z) z (wY (ym z) z (wY (Y.and_b (b := 127) z z) z (wY (Y.conv_bu ty5.u ty26.u z) z (wY (ym z) z ?_)))))))))
       refine wY (Y.mul_i z z) z (wY (Y.conv_iu ty3.u ty61.u z) z (wY (Y.shl_uu z z) z (wY (Y.or_u z z) z ?_)))
       obtain ⟨S, ak, h⟩ := lt1 h
       refine WL.yE (ya z) (congrArg vu ak.symm) z (nl (th (sq (rg (wY (ym z) z (wY (Y.lss_b (b := 128) z z) z (nl (th ?_))))))))
       rcases cnd h with ⟨H, h⟩ | ⟨H, h⟩
       ·refine WC.condT' z H (sq (sq (rg (wY (ym z) z (wY (Y.eql_b (b := 0) z z) z (wY (ym z) z ?_))))))
        refine WL.cut 3 (σ := Unit) (fun _ w' => w = w') (fun _ => [(4, vu S), (7, vi d), (48, vB ((decide (j = 0)) && (decide (0 < d))))]) ?_ ?_
        ·refine WL.part 45 z (fun I => ?_) (fun I => ?_)
         ·refine ug z z (wY (ym z) z (ug z z (wY (Y.gtr_i z z) z (wY (Y.pick (b := true) z z) z (WL.ren (v' := vB ((decide (j = 0)) && (decide (0 < d)))) 48 z (congrArg vB (andT I)) ?_)))))
          exact nl (At.join () z (.cons z (.cons z (.cons z .nil))))
         ·refine WL.gS z z z z (WL.gS z z z z (wY (Y.pick (b := false) z z) z (WL.ren (v' := vB ((decide (j = 0)) && (decide (0 < d)))) 48 z (congrArg vB (andF I)) ?_)))
          exact nl (At.join () z (.cons z (.cons z (.cons z .nil))))
        ·rintro _ _ rfl
         refine (show WL _ _ _ _ _ [(4, vu S), (7, vi d), (48, vB ((decide (j = 0)) && (decide (0 < d))))] _ from ?_)
         refine nl (th ?_)
         rcases cnd h with ⟨J, h⟩ | ⟨J, h⟩
         ·refine WC.condT' z J (sq (rg (wY (ya (v := vu 0) z) z (wY (ya z) z (wY (ya z) z (nl (th (rt (At.thenR ?_)))))))))
          refine At.inBlockR (At.thenR (At.loopR ?_))
          have h := outr1 h l o
          refine At.joinBR (At.inBlockR (At.thenR ?_))
          obtain ⟨rfl, rfl, rfl⟩ := tup3 h
          have al : Stp [] (Lg.O0 A) w (Lg.O0 A) w := (sr_ _ _ _)
          exact At.res (.inl z) z (.tmp z (.tmp z (.tmp z .nil))) ⟨z, (se_ al z z)⟩
         ·refine WC.condF' z J (sk (th (sq (rg (wY (ym z) z (wY (ym z) z (wY (Y.add_i z z) z (wY (ya z) z ?_))))))))
          obtain ⟨au, W, h⟩ := lt1 h
          refine WL.yE (ya z) (congrArg vi W.symm) z (wY (ya z) z (nl (th (rt (At.inBlockR (At.thenR (At.loopR ?_)))))))
          have h := outr1 h l o
          refine At.joinBR (At.inBlockR (At.thenR ?_))
          obtain ⟨rfl, rfl, rfl⟩ := tup3 h
          have am : Stp [] (Lg.O0 A) w (Lg.O0 A) w := (sr_ _ _ _)
          exact At.res (.inl z) z (.tmp z (.tmp z (.tmp z .nil))) ⟨z, (se_ am z z)⟩
       ·refine WC.condF' z H (sk (At.inBlock (th (rg (wY (Y.add_i z z) z (wY (ym z) z (nl ?_)))))))
        exact At.round (S, w64 (d + 1)) ao (Nat.lt_succ_self _) ⟨next1 h l, z⟩ (.cons z (.cons z (.cons z (.cons z .nil))))
    ·refine WC.condF' z D (WC.exit (At.thenX (At.loopX ?_)))
     exact At.hitB (σ := Unit) () ⟨brk1 h l, z⟩ .nil
   ·rintro _ _ ⟨rfl, rfl⟩
    replace h := flowK_go o
    refine (show At _ _ _ [] _ from ?_)
    refine At.inBlockHit (th (sq (rg (wY (ya (v := vu 0) z) z (wY (ya z) z (wY (ya z) z (nl (th (rt ?_)))))))))
    obtain ⟨rfl, rfl, rfl⟩ := tup3 h
    have an : Stp [] (Lg.O0 A) w (Lg.O0 A) w := (sr_ _ _ _)
    exact At.res (.inl z) z (.tmp z (.tmp z (.tmp z .nil))) ⟨z, (se_ an z z)⟩
theorem c_wire_field {A : Nat → Prop} {a0 : List UInt8} {v0 : Value} {a1 : Int} {w : World} (hs0 : Sl Rep.b w A v0 a0) {r0 : api_Fld} {r1 : Int} {r2 : Int} (h : wire_field a0 a1 = some (r0, r1, r2)) : Rets Try.prog 90 [v0, vi a1] w (fun v w' => ∃ (aJ : Value), v = Value.tuple (List.toArray [ag [vi r0.Num, vi r0.Type_, vu r0.V, aJ], vi r1, vi r2]) ∧ Ext w w' ∧ RowF Rep.b 5 w w' aJ r0.B) := by
 unfold wire_field at h
 refine Rets.enter Try.func90 z z ?_
 have bR : Sl Rep.b w (imm (Lg.O0 A)) v0 a0 := (Sl.start hs0)
 refine (show WC _ _ _ _ [(0, v0), (1, vi a1)] _ from ?_)
 refine sq (rg (WL.alloc (O := (Lg.O0 A)) 11 [vi 0, vi 0, vu 0, sn] ty68 z z ?_))
 intro E cu cO o S
 refine wY (ya z) z (wY (ya z) z (nl (th (sq (rg (wY (ym z) z (wY (ym z) z ?_)))))))
 have ae := bR.i o z z
 obtain ⟨⟨F, cX, cY⟩, bS, h⟩ := bnd h
 refine WL.call (vals := [v0, vi a1]) kok109 z z (c_wire_GetVar (A := fun _ => True) (Sl.all ae) bS) ?_
 rintro cP bT ⟨rfl, bU⟩
 obtain ⟨K, cw, cx, l⟩ := adoptE cu (fun k => 1) bU
 refine wY (ym z) z (wY (yx z z) z (wY (yx z z) z (wY (yx z z) z (wY (ya z) z (wY (ya z) z (wY (ya z) z (nl (th (sq ?_)))))))))
 refine sq (rg (wY (ym z) z (wY (Y.neq_i z z) z (nl (th ?_)))))
 rcases cnd h with ⟨af, h⟩ | ⟨af, h⟩
 ·refine WC.condT' z af (sq (rg ?_))
  have aK := S.st l z
  refine wY (yL ty68 z z (aK.cells 0 [vi 0, vi 0, vu 0, sn] z) z) z (wY (ym z) z (WL.store (v := ag [vi 0, vi 0, vu 0, sn]) (cells' := [vi 0, vi 0, vu 0, sn]) ty68 z z aK z (le_ z) z z ?_))
  intro bW a5 bX
  refine wY (ya z) z (wY (ya z) z (nl (th (rt (At.thenR ?_)))))
  obtain ⟨rfl, rfl, rfl⟩ := tup3 h
  have bY : Stp [11] (Lg.O0 A) w K bW := (tr_ (su_ o z) (tr_ (su_ l z) (su_ a5 z)))
  exact At.res (.inl z) z (.cell z (bX.runAg 0 [vi 0, vi 0, vu 0, sn] ty68 z z z) (.tmp z (.tmp z .nil))) ⟨sn, z, (se_ bY z z), RowF.nil⟩
 ·refine WC.condF' z af (sk (th (sq (rg (wY (ym z) z (wY (ym z) z (wY (Y.add_i z z) z ?_)))))))
  obtain ⟨r, a6, h⟩ := lt1 h
  refine WL.yE (ya z) (congrArg vi a6.symm) z (nl (th (sq (sq (rg (wY (ym z) z (wY (Y.and_u (b := 7) z z) z (wY (Y.gtr_u (b := 2) z z) z (nl ?_)))))))))
  refine th ?_
  rcases cnd h with ⟨ah, h⟩ | ⟨ah, h⟩
  ·refine WC.condT' z ah (sq (rg ?_))
   have aL := S.st l z
   refine wY (yL ty68 z z (aL.cells 0 [vi 0, vi 0, vu 0, sn] z) z) z (WL.store (v := ag [vi 0, vi 0, vu 0, sn]) (cells' := [vi 0, vi 0, vu 0, sn]) ty68 z z aL z (le_ z) z z ?_)
   intro bZ a7 b0
   refine wY (ya z) z (wY (ya z) z (nl (th (rt (At.thenR ?_)))))
   obtain ⟨rfl, rfl, rfl⟩ := tup3 h
   have b1 : Stp [11] (Lg.O0 A) w K bZ := (tr_ (su_ o z) (tr_ (su_ l z) (su_ a7 z)))
   exact At.res (.inl z) z (.cell z (b0.runAg 0 [vi 0, vi 0, vu 0, sn] ty68 z z z) (.tmp z (.tmp z .nil))) ⟨sn, z, (se_ b1 z z), RowF.nil⟩
  ·refine WC.condF' z ah (sk (th (sq (sq (rg (wY (ym z) z (wY (Y.shr_uu (m := 3) z z) z (wY (Y.lss_u (b := 1) z z) z (wY (ym z) z ?_)))))))))
   refine WL.cut 4 (σ := Unit) (fun _ w' => bT = w') (fun _ => [(0, v0), (1, vi r), (4, pt E 0), (7, vu F), (37, vB ((decide (shrU F ((3 : UInt64).toNat) < 1)) || (decide (536870911 < shrU F ((3 : UInt64).toNat)))))]) ?_ ?_
   ·refine WL.part 33 z (fun ai => ?_) (fun ai => ?_)
    ·refine WL.gS z z z z (WL.gS z z z z (WL.gS z z z z (wY (Y.pick (b := true) z z) z (WL.ren (v' := vB ((decide (shrU F ((3 : UInt64).toNat) < 1)) || (decide (536870911 < shrU F ((3 : UInt64).toNat))))) 37 z (congrArg vB (orT ai)) ?_))))
     exact nl (At.join () z (.cons z (.cons z (.cons z (.cons z (.cons z .nil))))))
    ·refine ug z z (wY (ym z) z (ug z z (wY (Y.shr_uu (m := 3) z z) z (ug z z (wY (Y.gtr_u (b := 536870911) z z) z (wY (Y.pick (b := false) z z) z (WL.ren (v' := vB ((decide (shrU F ((3 : UInt64).toNat) < 1)) || (decide (536870911 < shrU F ((3 : UInt64).toNat))))) 37 z (congrArg vB (orF ai)) ?_)))))))
     exact nl (At.join () z (.cons z (.cons z (.cons z (.cons z (.cons z .nil))))))
   ·rintro _ _ rfl
    refine (show WL _ _ _ _ _ [(0, v0), (1, vi r), (4, pt E 0), (7, vu F), (37, vB ((decide (shrU F ((3 : UInt64).toNat) < 1)) || (decide (536870911 < shrU F ((3 : UInt64).toNat)))))] _ from ?_)
    refine nl (th ?_)
    rcases cnd h with ⟨aj, h⟩ | ⟨aj, h⟩
    ·refine WC.condT' z aj (sq (rg ?_))
     have aM := S.st l z
     refine wY (yL ty68 z z (aM.cells 0 [vi 0, vi 0, vu 0, sn] z) z) z (WL.store (v := ag [vi 0, vi 0, vu 0, sn]) (cells' := [vi 0, vi 0, vu 0, sn]) ty68 z z aM z (le_ z) z z ?_)
     intro b2 a8 b3
     refine wY (ya z) z (wY (ya z) z (nl (th (rt (At.thenR ?_)))))
     obtain ⟨rfl, rfl, rfl⟩ := tup3 h
     have b4 : Stp [11] (Lg.O0 A) w K b2 := (tr_ (su_ o z) (tr_ (su_ l z) (su_ a8 z)))
     exact At.res (.inl z) z (.cell z (b3.runAg 0 [vi 0, vi 0, vu 0, sn] ty68 z z z) (.tmp z (.tmp z .nil))) ⟨sn, z, (se_ b4 z z), RowF.nil⟩
    ·refine WC.condF' z aj (sk (th (sq (rg (wY (ym z) z (wY (Y.shr_uu (m := 3) z z) z (wY (Y.conv_ui ty26.u ty3.u z) z (wY (ym z) z (wY (Y.and_u (b := 7) z z) z ?_)))))))))
     refine wY (Y.conv_ui ty26.u ty3.u z) z (wY (yf fo68_0 z) z ?_)
     obtain ⟨d, b5, h⟩ := lt1 h
     refine WL.ren 41 z (congrArg vi b5.symm) ?_
     have b6 := S.st l z
     refine WL.store (v := vi d) (cells' := [vi d, vi 0, vu 0, sn]) ty3 z z b6 z (le_ z) z z ?_
     intro cQ C b7
     refine wY (yf fo68_1 z) z ?_
     obtain ⟨j, b8, h⟩ := lt1 h
     refine WL.ren 44 z (congrArg vi b8.symm) (WL.store (v := vi j) (cells' := [vi d, vi j, vu 0, sn]) ty3 z z b7 z (le_ z) z z ?_)
     intro ak D P
     refine nl (th (sq (sq (rg (wY (yf fo68_1 z) z (wY (yl ty3 z z (P.cell 1 _ z)) z (wY (Y.eql_i z z) z (nl (th ?_)))))))))
     rcases cnd h with ⟨al, h⟩ | ⟨al, h⟩
     ·refine WC.condT' z al (sq (sq (rg (wY (ym z) z ?_))))
      have aN := ((ae.i l z z).i C z z).i D z z
      refine wY (Y.len ty45 z aN) z (wY (ym z) z (wY (Y.sub_i z z) z (wY (Y.lss_i z z) z (nl (th ?_)))))
      rcases cnd h with ⟨am, h⟩ | ⟨am, h⟩
      ·refine WC.condT' z am (sq (rg (wY (yL ty68 z z (P.cells 0 [vi d, vi j, vu 0, sn] z) z) z (WL.store (v := ag [vi d, vi j, vu 0, sn]) (cells' := [vi d, vi j, vu 0, sn]) ty68 z z P z (le_ z) z z ?_))))
       intro cb a9 cc
       refine wY (ya z) z (wY (ya z) z (nl (th (rt (At.thenR (At.thenR ?_))))))
       obtain ⟨rfl, rfl, rfl⟩ := tup3 h
       have cd : Stp [11] (Lg.O0 A) w K cb := (tr_ (su_ o z) (tr_ (su_ l z) (tr_ (su_ C z) (tr_ (su_ D z) (su_ a9 z)))))
       exact At.res (.inl z) z (.cell z (cc.runAg 0 [vi d, vi j, vu 0, sn] ty68 z z z) (.tmp z (.tmp z .nil))) ⟨sn, z, (se_ cd z z), RowF.nil⟩
      ·refine WC.condF' z am (sk (th (sq (sq (rg (wY (ym z) z (wY (ym z) z (wY (ym z) z (wY (Y.add_i z z) z ?_)))))))))
       obtain ⟨aO, ce, h⟩ := bnd h
       obtain ⟨bL, cf, aP⟩ := Sl.slice (ρ := [(56, v0), (57, vi r), (59, vi (w64 (r + 8)))]) (x := (.tmp 56)) (lo := (some (.tmp 57))) (hi := (some (.tmp 59))) ty45 ty5 rfl rfl rfl aN ce
       refine wY (Y.sub (.cons z (.cons z (.cons z .nil))) (cf _ _)) z (wY (Y.len ty45 z aP) z (wY (ym z) z (nl (th ?_))))
       obtain ⟨cy, h, cg⟩ := bnd h
       refine WC.join (σ := (UInt64 × Own)) (fun x w' => x.1 = cy ∧ Stp [11] K ak x.2 w' ∧ Blk 11 x.2 w' E 68 [vi d, vi j, vu x.1, sn]) (fun x => [(1, vi r), (4, pt E 0)]) ?_ ?_
       ·refine WC.block ?_
        obtain ⟨bM, h, ch⟩ := flow1 h
        obtain ⟨bO, h⟩ := loop_some h
        refine WC.joinB 0 (σ := (UInt64 × Own)) (fun x w' => bM = .go x.1 ∧ Stp [11] K ak x.2 w' ∧ Blk 11 x.2 w' E 68 [vi d, vi j, vu x.1, sn]) (fun x => [(1, vi r), (4, pt E 0)]) ?_ ?_
        ·refine WC.loop (σ := (UInt64 × Int × Own)) (fun x k w' => loopN k (wire_field_lp1 aO) (x.1, x.2.1) = some bM ∧ Stp [11] K ak x.2.2 w' ∧ Blk 11 x.2.2 w' E 68 [vi d, vi j, vu x.1, sn]) (fun x => [(1, vi r), (4, pt E 0), (60, bL), (61, vi (aO.length : Int)), (62, vi x.2.1)]) (0, 0, K) bO (.cons z (.cons z (.cons z (.cons z (.cons z .nil))))) ⟨h, (sr_ _ _ _), P⟩ ?_
         rintro ⟨cz, bP, bQ⟩ bO cR ⟨h, Q, T⟩
         obtain ⟨cA, cZ, rfl, h, aQ⟩ := rnd1 h
         unfold wire_field_lp1 at h
         try dsimp only at h Q T
         refine (show WC _ _ _ _ [(1, vi r), (4, pt E 0), (60, bL), (61, vi (aO.length : Int)), (62, vi bP)] _ from ?_)
         refine sq (rg (wY (Y.lss_i z z) z (nl (th (sq ?_)))))
         rcases cnd h with ⟨an, h⟩ | ⟨an, h⟩
         ·refine WC.condT' z an (sk (th (sq (WC.block (sq (rg (wY (ym z) z ?_)))))))
          obtain ⟨cC, ci, h⟩ := bnd h
          have ba := aP.i Q z z
          obtain ⟨c0, cD, cE, cI, cj, ck, bb, U, aR, bc⟩ := Sl.at2 ba ci
          obtain rfl := aR
          replace U : CellsAt _ _ _ [vb cC] := U
          have aS := CAt.imm U bc
          refine wY (Y.indexAddr ty45 ty5 z cj z ck bb) z (wY (yl ty5 z z aS.at_) z (wY (ya z) z (wY (ya z) z (nl (th (rg (wY (yf fo68_2 z) z (wY (yl ty26 z z (T.cell 2 _ z)) z (wY (ym z) z ?_)))))))))
          refine wY (Y.conv_bu ty5.u ty26.u z) z (wY (ym z) z (wY (Y.mul_i z z) z (wY (Y.conv_iu ty3.u ty61.u z) z (wY (Y.shl_uu z z) z (wY (Y.or_u z z) z (wY (yf fo68_2 z) z ?_))))))
          obtain ⟨ao, bd, h⟩ := lt1 h
          refine WL.ren 75 z (congrArg vu bd.symm) (WL.store (v := vu ao) (cells' := [vi d, vi j, vu ao, sn]) ty26 z z T z (le_ z) z z ?_)
          intro cJ aT bf
          refine nl (At.inBlock (th (rg (wY (Y.add_i z z) z (wY (ym z) z (nl ?_))))))
          exact At.round (ao, w64 (bP + 1), bQ) cA (Nat.lt_succ_self _) ⟨next1 h aQ, (tr_ (su_ Q z) (su_ aT z)), bf⟩ (.cons z (.cons z (.cons z (.cons z (.cons z .nil)))))
         ·refine WC.condF' z an (WC.exit (At.thenX (At.loopX ?_)))
          exact At.hitB (σ := (UInt64 × Own)) (cz, bQ) ⟨brk1 h aQ, (su_ Q z), T⟩ (.cons z (.cons z .nil))
        ·rintro ⟨cF, cG⟩ cS ⟨rfl, au, aU⟩
         replace h := flowK_go ch
         try dsimp only at h au aU
         refine (show At _ _ _ [(1, vi r), (4, pt E 0)] _ from ?_)
         refine At.inBlockHit ?_
         exact At.join (σ := (UInt64 × Own)) (cF, cG) ⟨some1 h, (su_ au z), aU⟩ (.cons z (.cons z .nil))
       ·rintro ⟨av, cH⟩ cT ⟨rfl, ax, ap⟩
        replace h := cg
        try dsimp only at h ax ap
        refine (show At _ _ _ [(1, vi r), (4, pt E 0)] _ from ?_)
        refine th (sq (rg (wY (yL ty68 z z (ap.cells 0 [vi d, vi j, vu av, sn] z) z) z (wY (ym z) z (wY (Y.add_i z z) z (WL.store (v := ag [vi d, vi j, vu av, sn]) (cells' := [vi d, vi j, vu av, sn]) ty68 z z ap z (le_ z) z z ?_))))))
        intro bg aW bh
        obtain ⟨co, aq, h⟩ := lt1 h
        refine WL.yE (ya z) (congrArg vi aq.symm) z (wY (ya z) z (nl (th (rt (At.thenR ?_)))))
        obtain ⟨rfl, rfl, rfl⟩ := tup3 h
        have bi : Stp [11] (Lg.O0 A) w cH bg := (tr_ (su_ o z) (tr_ (su_ l z) (tr_ (su_ C z) (tr_ (su_ D z) (tr_ (su_ ax z) (su_ aW z))))))
        exact At.res (.inl z) z (.cell z (bh.runAg 0 [vi d, vi j, vu av, sn] ty68 z z z) (.tmp z (.tmp z .nil))) ⟨sn, z, (se_ bi z z), RowF.nil⟩
     ·refine WC.condF' z al (sk (th (sq (rg (wY (ym z) z (wY (ym z) z ?_))))))
      have ay := ((ae.i l z z).i C z z).i D z z
      obtain ⟨⟨G, cU, cV⟩, bl, h⟩ := bnd h
      refine WL.call (vals := [v0, vi r]) kok109 z z (c_wire_GetVar (A := fun _ => True) (Sl.all ay) bl) ?_
      rintro cK cL ⟨rfl, bm⟩
      obtain ⟨W, cq, cr, t⟩ := adoptE K (fun k => 1) bm
      refine wY (ym z) z (wY (yx z z) z (wY (yx z z) z (wY (yx z z) z (wY (ya z) z (wY (ya z) z (wY (ya z) z (nl (th (sq ?_)))))))))
      refine sq (rg (wY (ym z) z (wY (Y.neq_i z z) z (nl (th ?_)))))
      rcases cnd h with ⟨X, h⟩ | ⟨X, h⟩
      ·refine WC.condT' z X (sq (rg ?_))
       have az := P.st t z
       refine wY (yL ty68 z z (az.cells 0 [vi d, vi j, vu 0, sn] z) z) z (wY (ym z) z (WL.store (v := ag [vi d, vi j, vu 0, sn]) (cells' := [vi d, vi j, vu 0, sn]) ty68 z z az z (le_ z) z z ?_))
       intro bn aX bo
       refine wY (ya z) z (wY (ya z) z (nl (th (rt (At.thenR ?_)))))
       obtain ⟨rfl, rfl, rfl⟩ := tup3 h
       have bp : Stp [11] (Lg.O0 A) w W bn := (tr_ (su_ o z) (tr_ (su_ l z) (tr_ (su_ C z) (tr_ (su_ D z) (tr_ (su_ t z) (su_ aX z))))))
       exact At.res (.inl z) z (.cell z (bo.runAg 0 [vi d, vi j, vu 0, sn] ty68 z z z) (.tmp z (.tmp z .nil))) ⟨sn, z, (se_ bp z z), RowF.nil⟩
      ·refine WC.condF' z X (sk (th (sq (rg (wY (ym z) z (wY (ym z) z (wY (Y.add_i z z) z ?_)))))))
       obtain ⟨aA, aY, h⟩ := lt1 h
       refine WL.yE (ya z) (congrArg vi aY.symm) z (nl (th (sq (sq (rg (wY (yf fo68_1 z) z ?_))))))
       have M := P.st t z
       refine wY (yl ty3 z z (M.cell 1 _ z)) z (wY (Y.eql_i z z) z (nl (th ?_)))
       rcases cnd h with ⟨Z, h⟩ | ⟨Z, h⟩
       ·refine WC.condT' z Z (sq (rg (wY (ym z) z (wY (yf fo68_2 z) z (WL.store (v := vu G) (cells' := [vi d, vi j, vu G, sn]) ty26 z z M z (le_ z) z z ?_)))))
        intro cM aZ aC
        refine nl (th (sq (rg (wY (yL ty68 z z (aC.cells 0 [vi d, vi j, vu G, sn] z) z) z (wY (ym z) z (WL.store (v := ag [vi d, vi j, vu G, sn]) (cells' := [vi d, vi j, vu G, sn]) ty68 z z aC z (le_ z) z z ?_))))))
        intro bq a2 br
        refine wY (ya z) z (wY (ya z) z (nl (th (rt (At.thenR ?_)))))
        obtain ⟨rfl, rfl, rfl⟩ := tup3 h
        have bs : Stp [11] (Lg.O0 A) w W bq := (tr_ (su_ o z) (tr_ (su_ l z) (tr_ (su_ C z) (tr_ (su_ D z) (tr_ (su_ t z) (tr_ (su_ aZ z) (su_ a2 z)))))))
        exact At.res (.inl z) z (.cell z (br.runAg 0 [vi d, vi j, vu G, sn] ty68 z z z) (.tmp z (.tmp z .nil))) ⟨sn, z, (se_ bs z z), RowF.nil⟩
       ·refine WC.condF' z Z (sk (th (sq (sq (rg (wY (ym z) z (wY (ym z) z ?_)))))))
        have aD := ay.i t z z
        refine wY (Y.len ty45 z aD) z (wY (ym z) z (wY (Y.sub_i z z) z (wY (Y.conv_iu ty3.u ty26.u z) z (wY (Y.gtr_u z z) z (nl (th ?_))))))
        rcases cnd h with ⟨aa, h⟩ | ⟨aa, h⟩
        ·refine WC.condT' z aa (sq (rg (wY (yL ty68 z z (M.cells 0 [vi d, vi j, vu 0, sn] z) z) z (WL.store (v := ag [vi d, vi j, vu 0, sn]) (cells' := [vi d, vi j, vu 0, sn]) ty68 z z M z (le_ z) z z ?_))))
         intro bt a3 bu
         refine wY (ya z) z (wY (ya z) z (nl (th (rt (At.thenR ?_)))))
         obtain ⟨rfl, rfl, rfl⟩ := tup3 h
         have bw : Stp [11] (Lg.O0 A) w W bt := (tr_ (su_ o z) (tr_ (su_ l z) (tr_ (su_ C z) (tr_ (su_ D z) (tr_ (su_ t z) (su_ a3 z))))))
         exact At.res (.inl z) z (.cell z (bu.runAg 0 [vi d, vi j, vu 0, sn] ty68 z z z) (.tmp z (.tmp z .nil))) ⟨sn, z, (se_ bw z z), RowF.nil⟩
        ·refine WC.condF' z aa (sk (th (sq (rg (wY (ym z) z (wY (ym z) z (wY (ym z) z (wY (ym z) z (wY (Y.conv_ui ty26.u ty3.u z) z ?_)))))))))
         refine wY (Y.add_i z z) z ?_
         obtain ⟨cW, bx, h⟩ := bnd h
         obtain ⟨cl, bz, bA⟩ := Sl.slice (ρ := [(110, v0), (111, vi aA), (115, vi (w64 (aA + (w64 (G.toNat : Int)))))]) (x := (.tmp 110)) (lo := (some (.tmp 111))) (hi := (some (.tmp 115))) ty45 ty5 rfl rfl rfl aD bx
         refine wY (Y.sub (.cons z (.cons z (.cons z .nil))) (bz _ _)) z ?_
         obtain ⟨cm, bB, h⟩ := bnd h
         refine WL.call (vals := [cl]) kok67 z z (c_bytes_Clone (A := fun _ => True) (Sl.all bA) bB) ?_
         rintro aE bC ⟨_, rfl, bD, cn⟩
         obtain ⟨a4, cs, aI, ab⟩ := adoptE W (fun k => if ob aE = some k then 12 else 1) bD
         have aF : OwnSl 12 Rep.b 5 a4 bC aE cm := RowF.adopt 12 Flat.b cn aI (fun k hk => if_pos hk)
         refine wY (yf fo68_3 z) z ?_
         have bE := h
         obtain ⟨H, I, J, rfl⟩ := aF.shape
         have h := bE
         have bG := M.st ab z
         refine WL.store (v := (vl H I J)) (cells' := [vi d, vi j, vu 0, (vl H I J)]) ty45 z z bG z (le_ z) z z ?_
         intro cN ac aG
         refine nl (th (sq (rg (wY (yL ty68 z z (aG.cells 0 [vi d, vi j, vu 0, (vl H I J)] z) z) z (wY (ym z) z (wY (ym z) z (wY (Y.conv_ui ty26.u ty3.u z) z (wY (Y.add_i z z) z (WL.store (v := ag [vi d, vi j, vu 0, (vl H I J)]) (cells' := [vi d, vi j, vu 0, (vl H I J)]) ty68 z z aG z (le_ z) z z ?_)))))))))
         intro bH ad bI
         obtain ⟨ct, ar, h⟩ := lt1 h
         refine WL.yE (ya z) (congrArg vi ar.symm) z (wY (ya z) z (nl (th (rt ?_))))
         obtain ⟨rfl, rfl, rfl⟩ := tup3 h
         have aH : Stp [11] (Lg.O0 A) w a4 bH := (tr_ (su_ o z) (tr_ (su_ l z) (tr_ (su_ C z) (tr_ (su_ D z) (tr_ (su_ t z) (tr_ (su_ ab z) (tr_ (su_ ac z) (su_ ad z))))))))
         have bK := (aF.st ac z z z).st ad z z z
         exact At.res (.inl z) z (.cell z (bI.runAg 0 [vi d, vi j, vu 0, (vl H I J)] ty68 z z z) (.tmp z (.tmp z .nil))) ⟨(vl H I J), z, (se_ aH z z), (OwnSl.outF bK aH low0 z)⟩
theorem c_wire_Decode {A : Nat → Prop} {a0 : List UInt8} {v0 : Value} {w : World} (hs0 : Sl Rep.b w A v0 a0) {r0 : List api_Fld} {r1 : Int} {r2 : Int} (h : wire_Decode a0 = some (r0, r1, r2)) : Rets Try.prog 68 [v0] w (fun v w' => ∃ (u0 : Value), v = tp [u0, vi r1, vi r2] ∧ Ext w w' ∧ Sl rep_api_Fld w' (fun k => w.heap.size ≤ k) u0 r0) := by
 unfold wire_Decode at h
 refine Rets.enter Try.func68 z z ?_
 have al : Sl Rep.b w (imm (Lg.O0 A)) v0 a0 := (Sl.start hs0)
 refine (show WC _ _ _ _ [(0, v0)] _ from ?_)
 refine sq (rg (wY (ya z) z (wY (ya z) z (wY (ya z) z (nl (th (sq (WC.block ?_))))))))
 obtain ⟨ad, h, M⟩ := flow1 h
 obtain ⟨ae, h⟩ := loop_some h
 refine WC.joinB 0 (σ := (List api_Fld × Own × Value)) (fun x w' => ad = .go x.1 ∧ Stp [11, 12, 1001] (Lg.O0 A) w x.2.1 w' ∧ OwnSl 1002 (frR rep_api_Fld w.heap.size) 68 x.2.1 w' x.2.2 x.1) (fun x => [(2, x.2.2)]) ?_ ?_
 ·refine WC.loop (σ := (List api_Fld × Int × Own × Value)) (fun x k w' => loopN k (wire_Decode_lp1 a0) (x.1, x.2.1) = some ad ∧ Stp [11, 12, 1001] (Lg.O0 A) w x.2.2.1 w' ∧ OwnSl 1001 (frR rep_api_Fld w.heap.size) 68 x.2.2.1 w' x.2.2.2 x.1) (fun x => [(0, v0), (2, x.2.2.2), (3, vi x.2.1)]) ([], 0, (Lg.O0 A), sn) ae (.cons z (.cons z (.cons z .nil))) ⟨h, (sr_ _ _ _), (OwnSl.nil 1001 (frR rep_api_Fld w.heap.size) 68)⟩ ?_
  rintro ⟨aN, P, aO, af⟩ ae a1 ⟨h, j, G⟩
  obtain ⟨aP, a6, rfl, h, H⟩ := rnd1 h
  unfold wire_Decode_lp1 at h
  try dsimp only at h j G
  refine (show WC _ _ _ _ [(0, v0), (2, af), (3, vi P)] _ from ?_)
  refine sq (sq (rg (wY (ym z) z (wY (ym z) z ?_))))
  have Q := al.i j z z
  refine wY (Y.len ty45 z Q) z (wY (Y.lss_i z z) z (nl (th ?_)))
  rcases cnd h with ⟨I, h⟩ | ⟨I, h⟩
  ·refine WC.condT' z I (sk (th (WC.block (sq (rg (wY (ym z) z (wY (ym z) z ?_)))))))
   obtain ⟨⟨d, aQ, a7⟩, am, h⟩ := bnd h
   refine WL.call (vals := [v0, vi P]) kok90 z z (c_wire_field (A := fun _ => True) (Sl.all Q) am) ?_
   rintro a2 an ⟨ah, rfl, ao, aR⟩
   obtain ⟨ai, aS, S, D⟩ := adoptE aO (fun k => if ob ah = some k then 11 else 1) ao
   have ap : OwnSl 11 Rep.b 5 ai an ah d.B := RowF.adopt 11 Flat.b aR S (fun k hk => if_pos hk)
   refine wY (ym z) z (wY (yx z z) z (wY (yx z z) z (wY (yx z z) z (WL.alloc (O := ai) 12 [vi 0, vi 0, vu 0, sn] ty68 z z ?_))))
   intro a8 aT a3 l aq
   have T := ap.st l z z z
   have ar := h
   obtain ⟨o, r, t, rfl⟩ := T.shape
   have h := ar
   refine WL.store (v := ag [vi d.Num, vi d.Type_, vu d.V, (vl o r t)]) (cells' := [vi d.Num, vi d.Type_, vu d.V, (vl o r t)]) ty68 z z aq z (le_ z) z z ?_
   intro U C au
   refine wY (ya z) z (wY (ya z) z (nl (th (sq (sq (rg (wY (ym z) z (wY (Y.neq_i z z) z (nl ?_)))))))))
   refine th ?_
   rcases cnd h with ⟨J, h⟩ | ⟨J, h⟩
   ·refine WC.condT' z J (sq (rg (wY (ym z) z (wY (ym z) z (wY (ya z) z (wY (ya z) z (wY (ya z) z (nl (th ?_)))))))))
    refine rt (At.thenR (At.inBlockR (At.loopR ?_)))
    have h := outr1 h H M
    refine At.joinBR (At.inBlockR (At.thenR ?_))
    obtain ⟨rfl, rfl, rfl⟩ := tup3 h
    have av : Stp [11, 12, 1001] (Lg.O0 A) w aT U := (tr_ (su_ j z) (tr_ (su_ D z) (tr_ (su_ l z) (su_ C z))))
    exact At.res (.inl z) z (.tmp z (.tmp z (.tmp z .nil))) ⟨sn, z, (se_ av z z), (Or.inl ⟨z, z⟩)⟩
   ·refine WC.condF' z J (sk (th (sq (rg (wY (ym z) z (wY (yL ty68 z z (au.cells 0 [vi d.Num, vi d.Type_, vu d.V, (vl o r t)] z) z) z ?_))))))
    have ax := T.st C z z z
    obtain ⟨aj, E, ay⟩ := OwnSl.giveF rfl Flat.b ax
    have az : Stp [11, 12, 1001] (Lg.O0 A) w aj U := (tr_ (su_ j z) (tr_ (su_ D z) (tr_ (su_ l z) (tr_ (su_ C z) (su_ E z)))))
    refine WL.buildSlice (O := aj) (R := (frR rep_api_Fld w.heap.size)) (vals := [(0, ag [vi d.Num, vi d.Type_, vu d.V, (vl o r t)])]) 13 [vi d.Num, vi d.Type_, vu d.V, (vl o r t)] (xs := [d]) (by decide) ty66 ty68 (show 0 < rep_api_Fld.n by decide) (show 1 * rep_api_Fld.n ≤ 65536 by decide) (fe_ z) (by kernel_rfl) z ⟨[vi d.Num, vi d.Type_, vu d.V, (vl o r t)], [], z, ⟨[vi d.Num], [vi d.Type_, vu d.V, (vl o r t)], z, z, ⟨[vi d.Type_], [vu d.V, (vl o r t)], z, z, ⟨[vu d.V], [(vl o r t)], z, z, ⟨_, z, (Sl.frB ay az low0)⟩⟩⟩⟩, z⟩ z ?_
    intro a9 ba a4 K aA
    obtain ⟨aC, Z, h⟩ := bnd h
    have aH := ((((G.st D z z z).st l z z z).st C z z z).st E z z z).st K z z z
    refine WL.append (by decide) ty66 ty68 z (by decide) z z aH aA.src Z z ?_
    intro aU aW a5 aa aI
    refine wY (ya z) z (nl (th (rg (wY (ym z) z (wY (ya z) z (nl (At.inBlock ?_)))))))
    exact At.round (aC, aQ, aW, aU) aP (Nat.lt_succ_self _) ⟨next1 h H, (tr_ (su_ j z) (tr_ (su_ D z) (tr_ (su_ l z) (tr_ (su_ C z) (tr_ (su_ E z) (tr_ (su_ K z) (su_ aa z))))))), aI⟩ (.cons z (.cons z (.cons z .nil)))
  ·refine WC.condF' z I (WC.exit (At.thenX (At.loopX ?_)))
   obtain ⟨aX, ab, aJ⟩ := OwnSl.rlb 1002 rfl G
   exact At.hitB (σ := (List api_Fld × Own × Value)) (aN, aX, af) ⟨brk1 h H, (tr_ (su_ j z) (su_ ab z)), aJ⟩ (.cons z .nil)
 ·rintro ⟨bb, aY, ak⟩ W ⟨rfl, F, X⟩
  replace h := flowK_go M
  try dsimp only at h F X
  refine (show At _ _ _ [(2, ak)] _ from ?_)
  refine At.inBlockHit (th (sq (rg (wY (ym z) z (wY (ya z) z (wY (ya z) z (wY (ya z) z (nl (th ?_)))))))))
  refine rt ?_
  obtain ⟨rfl, rfl, rfl⟩ := tup3 h
  have aK : Stp [11, 12, 1001] (Lg.O0 A) w aY W := (su_ F z)
  obtain ⟨aZ, ac, aL⟩ := OwnSl.giveB rfl X aK low0
  have aM : Stp [11, 12, 1001, 1002] (Lg.O0 A) w aZ W := (tr_ (su_ F z) (su_ ac z))
  exact At.res (.inl z) z (.tmp z (.tmp z (.tmp z .nil))) ⟨ak, z, (se_ aM z z), (Sl.outFb aL)⟩
theorem c_otlp_reader_fail {v0_1 : Value} {a0 : otlp_reader} {b0 : Nat} {a1 : Bool} {a2 : Int} {w : World} (hb0 : w.heap[b0]? = some (.cells (List.toArray [vi a0.e, v0_1]) 74 (0, 0))) {q0 : otlp_reader} (h : otlp_reader_fail a0 a1 a2 = some q0) : Rets Try.prog 69 [pt b0 0, vB a1, vi a2] w (fun v w' => v = tp [] ∧ Mod (fun k => k = b0) w w' ∧ w'.heap[b0]? = some (.cells (List.toArray [vi q0.e, v0_1]) 74 (0, 0))) := by
 unfold otlp_reader_fail at h
 refine Rets.enter Try.func69 z z ?_
 have d : Blk 3 (Lg.OB b0 3 (Lg.O0 (fun _ => False))) w b0 74 [vi a0.e, v0_1] := ⟨(if_pos z), hb0⟩
 refine (show WC _ _ _ _ [(0, pt b0 0), (1, vB a1), (2, vi a2)] _ from ?_)
 refine sq (rg (wY (ym z) z (wY (ym z) z ?_)))
 refine WL.cut 6 (σ := Unit) (fun _ w' => w = w') (fun _ => [(0, pt b0 0), (2, vi a2), (13, vB (a1 && (decide (a0.e = 0))))]) ?_ ?_
 ·refine WL.part 7 z (fun j => ?_) (fun j => ?_)
  ·refine ug z z (wY (ym z) z (ug z z (wY (yn z) z (ug z z (wY (yf fo74_0 z) z (ug z z (wY (yl ty34 z z (d.cell 0 _ z)) z (ug z z (wY (Y.eql_i z z) z ?_)))))))))
   refine wY (Y.pick (b := true) z z) z (WL.ren (v' := vB (a1 && (decide (a0.e = 0)))) 13 z (congrArg vB (andT j)) ?_)
   exact nl (At.join () z (.cons z (.cons z (.cons z .nil))))
  ·refine WL.gS z z z z (WL.gS z z z z (WL.gS z z z z (WL.gS z z z z (WL.gS z z z z (wY (Y.pick (b := false) z z) z (WL.ren (v' := vB (a1 && (decide (a0.e = 0)))) 13 z (congrArg vB (andF j)) ?_))))))
   exact nl (At.join () z (.cons z (.cons z (.cons z .nil))))
 ·rintro _ _ rfl
  refine (show WL _ _ _ _ _ [(0, pt b0 0), (2, vi a2), (13, vB (a1 && (decide (a0.e = 0))))] _ from ?_)
  refine nl (th ?_)
  rcases cnd h with ⟨l, h⟩ | ⟨l, h⟩
  ·refine WC.condT' z l (rg (wY (ym z) z (wY (ym z) z (wY (yn z) z (wY (yf fo74_0 z) z (WL.store (v := vi a2) (cells' := [vi a2, v0_1]) ty34 z z d z (le_ z) z z ?_))))))
   intro r o t
   refine nl ?_
   obtain rfl := some1 h
   have C : Stp [3] (Lg.OB b0 3 (Lg.O0 (fun _ => False))) w (Lg.OB b0 3 (Lg.O0 (fun _ => False))) r := (su_ o z)
   exact At.res (.inr z) z .nil ⟨z, (Stp.modL C sB1 z z), t.blk⟩
  ·refine WC.condF' z l (sk ?_)
   obtain rfl := some1 h
   have D : Stp [] (Lg.OB b0 3 (Lg.O0 (fun _ => False))) w (Lg.OB b0 3 (Lg.O0 (fun _ => False))) w := (sr_ _ _ _)
   exact At.res (.inr z) z .nil ⟨z, (Stp.modL D sB1 z z), d.blk⟩
theorem c_otlp_reader_open {A : Nat → Prop} {v0_1 : Value} {a0 : otlp_reader} {b0 : Nat} {a1 : List UInt8} {v1 : Value} {a2 : List (Int × Int)} {v2 : Value} {w : World} (hb0 : w.heap[b0]? = some (.cells (List.toArray [vi a0.e, v0_1]) 74 (0, 0))) (hs1 : Sl Rep.b w A v1 a1) (hs2 : Mi w A v2 a2) (hA : ∀ k, A k → k ≠ b0) {r0 : List api_Fld} {q0 : otlp_reader} (h : otlp_reader_open a0 a1 a2 = some (r0, q0)) : Rets Try.prog 32 [pt b0 0, v1, v2] w (fun v w' => ∃ (u0 : Value), v = u0 ∧ Mod (fun k => k = b0) w w' ∧ Sl rep_api_Fld w' (fun k => w.heap.size ≤ k) u0 r0 ∧ w'.heap[b0]? = some (.cells (List.toArray [vi q0.e, v0_1]) 74 (0, 0))) := by
 unfold otlp_reader_open at h
 refine Rets.enter Try.func32 z z ?_
 have Q : Blk 3 (Lg.OB b0 3 (Lg.O0 A)) w b0 74 [vi a0.e, v0_1] := ⟨(if_pos z), hb0⟩
 have aP : Sl Rep.b w (imm (Lg.OB b0 3 (Lg.O0 A))) v1 a1 := (Sl.OB (Sl.start hs1) (fun k hk => (hA k (O0_A k hk))))
 have aQ : Mi w (imm (Lg.OB b0 3 (Lg.O0 A))) v2 a2 := (Mi.OB (Mi.start hs2) (fun k hk => (hA k (O0_A k hk))))
 refine (show WC _ _ _ _ [(0, pt b0 0), (1, v1), (2, v2)] _ from ?_)
 refine sq (rg (wY (ya z) z (nl (th (sq (sq (rg (wY (ym z) z (wY (yn z) z ?_)))))))))
 refine wY (yf fo74_0 z) z (wY (yl ty34 z z (Q.cell 0 _ z)) z (wY (Y.neq_i z z) z (nl (th ?_))))
 rcases cnd h with ⟨S, h⟩ | ⟨S, h⟩
 ·refine WC.condT' z S (sq (rg (wY (ya z) z (nl (th (rt (At.thenR ?_)))))))
  obtain ⟨rfl, rfl⟩ := tup2 h
  have aR : Stp [] (Lg.OB b0 3 (Lg.O0 A)) w (Lg.OB b0 3 (Lg.O0 A)) w := (sr_ _ _ _)
  exact At.res (.inl z) z (.tmp z .nil) ⟨sn, z, (Stp.modL aR sB1 z z), (Or.inl ⟨z, z⟩), Q.blk⟩
 ·refine WC.condF' z S (sk (th (sq (rg (wY (ym z) z ?_)))))
  obtain ⟨⟨F, bJ, aE⟩, aS, h⟩ := bnd h
  refine WL.call (vals := [v1]) kok68 z z (c_wire_Decode (A := fun _ => True) (Sl.all aP) aS) ?_
  rintro bC aT ⟨d, rfl, aU, bn⟩
  obtain ⟨aF, bo, af, r⟩ := adoptE (Lg.OB b0 3 (Lg.O0 A)) (fun k => 1) aU
  have aW : Sl rep_api_Fld aT (frs aF) d F := Sl.adoptF bn (fun k hk => ⟨hk, z⟩) af
  refine wY (ym z) z (wY (yx z z) z (wY (yx z z) z (wY (yx z z) z (wY (ya z) z (wY (ya z) z (wY (ya z) z (nl (th (sq ?_)))))))))
  refine rg (wY (ym z) z (wY (ym z) z (wY (Y.neq_i z z) z (wY (ym z) z ?_))))
  have T := Q.st r z
  obtain ⟨aG, aX, h⟩ := bnd h
  refine WL.call (vals := [pt b0 0, vB (!decide (aE = 0)), vi aE]) kok69 z z (c_otlp_reader_fail (a0 := a0) T.blk aX) ?_
  rintro bD G ⟨rfl, aY, bp⟩
  obtain ⟨P, ah, bq, t⟩ := adopt aF (fun k => 1) [3] aY (memB T.lab rfl)
  have aZ : Blk 3 P G b0 74 [vi aG.e, v0_1] := Blk.adopt T ah bp
  refine nl (th (sq (sq (rg (wY (ym z) z ?_)))))
  have U := aW.f t z
  refine wY (Y.len ty66 z U) z (wY (ym z) z (nl (th ?_)))
  obtain ⟨br, h, a3⟩ := bnd h
  refine WC.join (σ := (Int × Own)) (fun x w' => x.1 = br ∧ Stp [3, 11] P G x.2 w' ∧ Blk 3 x.2 w' b0 74 [vi x.1, v0_1]) (fun x => [(0, pt b0 0), (7, d)]) ?_ ?_
  ·refine WC.block ?_
   obtain ⟨aH, h, a4⟩ := flow1 h
   obtain ⟨aI, h⟩ := loop_some h
   refine WC.joinB 0 (σ := (Int × Own)) (fun x w' => aH = .go x.1 ∧ Stp [3, 11] P G x.2 w' ∧ Blk 3 x.2 w' b0 74 [vi x.1, v0_1]) (fun x => [(0, pt b0 0), (7, d)]) ?_ ?_
   ·refine WC.loop (σ := (Int × Int × Own)) (fun x k w' => loopN k (otlp_reader_open_lp1 a0 a2 F) (x.1, x.2.1) = some aH ∧ Stp [3, 11] P G x.2.2 w' ∧ Blk 3 x.2.2 w' b0 74 [vi x.1, v0_1]) (fun x => [(0, pt b0 0), (2, v2), (7, d), (30, d), (31, vi (F.length : Int)), (32, vi x.2.1)]) (aG.e, 0, P) aI (.cons z (.cons z (.cons z (.cons z (.cons z (.cons z .nil)))))) ⟨h, (sr_ _ _ _), aZ⟩ ?_
    rintro ⟨aJ, ab, aK⟩ aI bE ⟨h, o, W⟩
    obtain ⟨bs, bK, rfl, h, ai⟩ := rnd1 h
    unfold otlp_reader_open_lp1 at h
    try dsimp only at h o W
    refine (show WC _ _ _ _ [(0, pt b0 0), (2, v2), (7, d), (30, d), (31, vi (F.length : Int)), (32, vi ab)] _ from ?_)
    refine sq (rg (wY (Y.lss_i z z) z (nl (th (sq ?_)))))
    rcases cnd h with ⟨X, h⟩ | ⟨X, h⟩
    ·refine WC.condT' z X (sk (th (sq (WC.block (sq (rg ?_))))))
     obtain ⟨j, a5, h⟩ := bnd h
     have a6 := U.f o z
     obtain ⟨bL, bz, bA, bG, a7, a8, a9, Z, ap, ba⟩ := Sl.at2 a6 a5
     obtain ⟨_, _, rfl, rfl, ⟨_, _, rfl, rfl, ⟨_, _, rfl, rfl, ⟨bt, rfl, bb⟩⟩⟩⟩ := ap
     replace Z : CellsAt _ _ _ [vi j.Num, vi j.Type_, vu j.V, bt] := Z
     have aq := CAt.frs Z ba
     refine wY (Y.indexAddr ty66 ty68 z a7 z a8 a9) z (wY (yL ty68 z z aq.at_ z) z (WL.alloc (O := aK) 11 [vi 0, vi 0, vu 0, sn] ty68 z z ?_))
     intro bM bu bH C bc
     have bd := bb.f C z
     have bf := h
     obtain ⟨aL, aM, aN, rfl⟩ := bd.shape
     have h := bf
     refine WL.store (v := ag [vi j.Num, vi j.Type_, vu j.V, (vl aL aM aN)]) (cells' := [vi j.Num, vi j.Type_, vu j.V, (vl aL aM aN)]) ty68 z z bc z (le_ z) z z ?_
     intro bg H aj
     refine nl (th (sq (rg (wY (ym z) z (wY (yf fo68_0 z) z (wY (yl ty3 z z (aj.cell 0 _ z)) z ?_))))))
     have ar := ((((aQ.i r z z).i t z z).i o z z).i C z z).i H z z
     refine wY (Y.lookup2 (es := a2) (A := fun _ => True) ty77.u ty3.u ty3 z z (Mi.all ar)) z (wY (ym z) z (wY (yx z z) z (wY (yx z z) z ?_)))
     obtain ⟨E, au, h⟩ := lt1 h
     refine WL.yE (ya z) (congrArg vi au.symm) z ?_
     obtain ⟨l, aa, h⟩ := lt1 h
     refine WL.yE (ya z) (congrArg vB aa.symm) z (nl (th (rg (wY (ym z) z (wY (ym z) z (wY (ym z) z ?_))))))
     refine WL.cut 5 (σ := Unit) (fun _ w' => bg = w') (fun _ => [(0, pt b0 0), (2, v2), (7, d), (30, d), (31, vi (F.length : Int)), (32, vi ab), (43, pt b0 0), (50, vB (l && (!decide (E = j.Type_))))]) ?_ ?_
     ·refine WL.part 45 z (fun I => ?_) (fun I => ?_)
      ·refine ug z z (wY (ym z) z (ug z z (wY (yf fo68_1 z) z (ug z z (wY (yl ty3 z z (aj.cell 1 _ z)) z (ug z z (wY (Y.neq_i z z) z (wY (Y.pick (b := true) z z) z (WL.ren (v' := vB (l && (!decide (E = j.Type_)))) 50 z (congrArg vB (andT I)) ?_)))))))))
       exact nl (At.join () z (.cons z (.cons z (.cons z (.cons z (.cons z (.cons z (.cons z (.cons z .nil)))))))))
      ·refine WL.gS z z z z (WL.gS z z z z (WL.gS z z z z (WL.gS z z z z (wY (Y.pick (b := false) z z) z (WL.ren (v' := vB (l && (!decide (E = j.Type_)))) 50 z (congrArg vB (andF I)) ?_)))))
       exact nl (At.join () z (.cons z (.cons z (.cons z (.cons z (.cons z (.cons z (.cons z (.cons z .nil)))))))))
     ·rintro _ _ rfl
      refine (show WL _ _ _ _ _ [(0, pt b0 0), (2, v2), (7, d), (30, d), (31, vi (F.length : Int)), (32, vi ab), (43, pt b0 0), (50, vB (l && (!decide (E = j.Type_))))] _ from ?_)
      have J := (W.st C z).st H z
      obtain ⟨ak, ax, h⟩ := bnd h
      refine WL.call (vals := [pt b0 0, vB (l && (!decide (E = j.Type_))), vi 14]) kok69 z z (c_otlp_reader_fail (a0 := (otlp_reader.mk aJ a0.out)) J.blk ax) ?_
      rintro bB ay ⟨rfl, az, bl⟩
      obtain ⟨al, ae, bm, am⟩ := adopt bu (fun k => 1) [3] az (memB J.lab rfl)
      have aA : Blk 3 al ay b0 74 [vi ak.e, v0_1] := Blk.adopt J ae bl
      refine nl (At.inBlock (th (rg (wY (Y.add_i z z) z (wY (ym z) z (nl ?_))))))
      exact At.round (ak.e, w64 (ab + 1), al) bs (Nat.lt_succ_self _) ⟨next1 h ai, (tr_ (su_ o z) (tr_ (su_ C z) (tr_ (su_ H z) (su_ am z)))), aA⟩ (.cons z (.cons z (.cons z (.cons z (.cons z (.cons z .nil))))))
    ·refine WC.condF' z X (WC.exit (At.thenX (At.loopX ?_)))
     exact At.hitB (σ := (Int × Own)) (aJ, aK) ⟨brk1 h ai, (su_ o z), W⟩ (.cons z (.cons z .nil))
   ·rintro ⟨bw, bx⟩ bI ⟨rfl, ac, an⟩
    replace h := flowK_go a4
    try dsimp only at h ac an
    refine (show At _ _ _ [(0, pt b0 0), (7, d)] _ from ?_)
    refine At.inBlockHit ?_
    exact At.join (σ := (Int × Own)) (bw, bx) ⟨some1 h, (su_ ac z), an⟩ (.cons z (.cons z .nil))
  ·rintro ⟨bO, aO⟩ ao ⟨rfl, D, K⟩
   replace h := a3
   try dsimp only at h D K
   refine (show At _ _ _ [(0, pt b0 0), (7, d)] _ from ?_)
   refine th (sq (sq (rg (wY (ym z) z (wY (yn z) z (wY (yf fo74_0 z) z (wY (yl ty34 z z (K.cell 0 _ z)) z (wY (Y.neq_i z z) z (nl ?_)))))))))
   refine th ?_
   rcases cnd h with ⟨M, h⟩ | ⟨M, h⟩
   ·refine WC.condT' z M (sq (rg (wY (ya z) z (nl (th (rt (At.thenR ?_)))))))
    obtain ⟨rfl, rfl⟩ := tup2 h
    have aC : Stp [3, 11] (Lg.OB b0 3 (Lg.O0 A)) w aO ao := (tr_ (su_ r z) (tr_ (su_ t z) (su_ D z)))
    exact At.res (.inl z) z (.tmp z .nil) ⟨sn, z, (Stp.modL aC sB1 z z), (Or.inl ⟨z, z⟩), K.blk⟩
   ·refine WC.condF' z M (sk (th (sq (rg (wY (ym z) z (wY (ya z) z (nl (th (rt ?_)))))))))
    obtain ⟨rfl, rfl⟩ := tup2 h
    have ad : Stp [3, 11] (Lg.OB b0 3 (Lg.O0 A)) w aO ao := (tr_ (su_ r z) (tr_ (su_ t z) (su_ D z)))
    have aD := U.f D z
    exact At.res (.inl z) z (.tmp z .nil) ⟨d, z, (Stp.modL ad sB1 z z), (Sl.outF aD ad (lowB low0 z z)), K.blk⟩
theorem c_wire_Last {A : Nat → Prop} {a0 : List api_Fld} {v0 : Value} {a1 : Int} {w : World} (hs0 : Sl rep_api_Fld w A v0 a0) {r0 : api_Fld} {r1 : Bool} (h : wire_Last a0 a1 = some (r0, r1)) : Rets Try.prog 91 [v0, vi a1] w (fun v w' => ∃ (G : Value), v = Value.tuple (List.toArray [ag [vi r0.Num, vi r0.Type_, vu r0.V, G], vB r1]) ∧ Ext w w' ∧ Sl Rep.b w' (fun k => w.heap.size ≤ k) G r0.B) := by
 unfold wire_Last at h
 refine Rets.enter Try.func91 z z ?_
 have T : Sl rep_api_Fld w (imm (Lg.O0 A)) v0 a0 := (Sl.start hs0)
 refine (show WC _ _ _ _ [(0, v0), (1, vi a1)] _ from ?_)
 refine sq (rg (WL.alloc (O := (Lg.O0 A)) 11 [vi 0, vi 0, vu 0, sn] ty68 z z ?_))
 intro aD aq aA l H
 refine wY (ya z) z (nl (th (sq (rg (wY (ym z) z (wY (ym z) z ?_))))))
 have U := T.i l z z
 obtain ⟨ar, W, h⟩ := bnd h
 refine WL.call (vals := [v0, vi a1]) kok31 z z (c_wire_All (A := fun _ => True) (Sl.all U) W) ?_
 rintro X Z ⟨_, rfl, aa, au⟩
 obtain ⟨I, av, J, j⟩ := adoptE aq (fun k => 1) aa
 have o : Sl rep_api_Fld Z (frs I) X ar := Sl.adoptF au (fun k hk => ⟨hk, z⟩) J
 refine wY (ya z) z (nl (th (sq (sq (rg (wY (ym z) z (wY (Y.len ty66 z o) z (wY (Y.eql_i z z) z (nl ?_)))))))))
 refine th ?_
 rcases cnd h with ⟨r, h⟩ | ⟨r, h⟩
 ·refine WC.condT' z r (sq (rg (wY (yb (vals := []) (cells := [vi 0, vi 0, vu 0, sn]) (fe_ z) (by kernel_rfl)) z ?_)))
  have ab := H.st j z
  refine WL.store (v := ag [vi 0, vi 0, vu 0, sn]) (cells' := [vi 0, vi 0, vu 0, sn]) ty68 z z ab z (le_ z) z z ?_
  intro ac P ad
  refine wY (ya z) z (nl (th (rt (At.thenR ?_))))
  obtain ⟨rfl, rfl⟩ := tup2 h
  have ae : Stp [11] (Lg.O0 A) w I ac := (tr_ (su_ l z) (tr_ (su_ j z) (su_ P z)))
  exact At.res (.inl z) z (.cell z (ad.runAg 0 [vi 0, vi 0, vu 0, sn] ty68 z z z) (.tmp z .nil)) ⟨sn, z, (se_ ae z z), (Or.inl ⟨z, z⟩)⟩
 ·refine WC.condF' z r (sk (th (sq (rg (wY (ym z) z (wY (ym z) z (wY (Y.len ty66 z o) z (wY (Y.sub_i z z) z ?_))))))))
  obtain ⟨d, af, h⟩ := bnd h
  obtain ⟨aE, ay, az, aC, ah, ai, aj, t, Q, ak⟩ := Sl.at2 o af
  obtain ⟨_, _, rfl, rfl, ⟨_, _, rfl, rfl, ⟨_, _, rfl, rfl, ⟨ax, rfl, K⟩⟩⟩⟩ := Q
  replace t : CellsAt _ _ _ [vi d.Num, vi d.Type_, vu d.V, ax] := t
  have S := CAt.frs t ak
  refine wY (Y.indexAddr ty66 ty68 z ah z ai aj) z (wY (yL ty68 z z S.at_ z) z ?_)
  have al := h
  obtain ⟨C, D, E, rfl⟩ := K.shape
  have h := al
  have am := H.st j z
  refine WL.store (v := ag [vi d.Num, vi d.Type_, vu d.V, (vl C D E)]) (cells' := [vi d.Num, vi d.Type_, vu d.V, (vl C D E)]) ty68 z z am z (le_ z) z z ?_
  intro an F ao
  refine wY (ya z) z (nl (th (rt ?_)))
  obtain ⟨rfl, rfl⟩ := tup2 h
  have M : Stp [11] (Lg.O0 A) w I an := (tr_ (su_ l z) (tr_ (su_ j z) (su_ F z)))
  have ap := K.f F z
  exact At.res (.inl z) z (.cell z (ao.runAg 0 [vi d.Num, vi d.Type_, vu d.V, (vl C D E)] ty68 z z z) (.tmp z .nil)) ⟨(vl C D E), z, (se_ M z z), (Sl.outF ap M low0)⟩
theorem c_otlp_last {A : Nat → Prop} {a0 : List api_Fld} {v0 : Value} {a1 : Int} {w : World} (hs0 : Sl rep_api_Fld w A v0 a0) {r0 : api_Fld} (h : otlp_last a0 a1 = some r0) : Rets Try.prog 70 [v0, vi a1] w (fun v w' => ∃ (F : Value), v = ag [vi r0.Num, vi r0.Type_, vu r0.V, F] ∧ Ext w w' ∧ Sl Rep.b w' (fun k => w.heap.size ≤ k) F r0.B) := by
 unfold otlp_last at h
 refine Rets.enter Try.func70 z z ?_
 have K : Sl rep_api_Fld w (imm (Lg.O0 A)) v0 a0 := (Sl.start hs0)
 refine (show WC _ _ _ _ [(0, v0), (1, vi a1)] _ from ?_)
 refine sq (rg (WL.alloc (O := (Lg.O0 A)) 11 [vi 0, vi 0, vu 0, sn] ty68 z z ?_))
 intro ar ai an C M
 refine nl (th (sq (rg (wY (ym z) z (wY (ym z) z ?_)))))
 have P := K.i C z z
 obtain ⟨⟨d, au⟩, Q, h⟩ := bnd h
 refine WL.call (vals := [v0, vi a1]) kok91 z z (c_wire_Last (A := fun _ => True) (Sl.all P) Q) ?_
 rintro ao S ⟨aj, rfl, T, ak⟩
 obtain ⟨J, al, G, D⟩ := adoptE ai (fun k => 1) T
 have U : Sl Rep.b S (frs J) aj d.B := Sl.adoptF ak (fun k hk => ⟨hk, z⟩) G
 refine wY (ym z) z (wY (yx z z) z (wY (yx z z) z (WL.alloc (O := J) 12 [vi 0, vi 0, vu 0, sn] ty68 z z ?_)))
 intro av am ap r W
 have H := U.f r z
 have X := h
 obtain ⟨j, l, o, rfl⟩ := H.shape
 have h := X
 refine WL.store (v := ag [vi d.Num, vi d.Type_, vu d.V, (vl j l o)]) (cells' := [vi d.Num, vi d.Type_, vu d.V, (vl j l o)]) ty68 z z W z (le_ z) z z ?_
 intro aq t Z
 refine wY (ya z) z (nl (th (sq (rg (wY (yL ty68 z z (Z.cells 0 [vi d.Num, vi d.Type_, vu d.V, (vl j l o)] z) z) z ?_)))))
 have ac := ((M.st D z).st r z).st t z
 refine WL.store (v := ag [vi d.Num, vi d.Type_, vu d.V, (vl j l o)]) (cells' := [vi d.Num, vi d.Type_, vu d.V, (vl j l o)]) ty68 z z ac z (le_ z) z z ?_
 intro ad E ae
 refine nl (th (rt ?_))
 obtain rfl := some1 h
 have I : Stp [11, 12] (Lg.O0 A) w am ad := (tr_ (su_ C z) (tr_ (su_ D z) (tr_ (su_ r z) (tr_ (su_ t z) (su_ E z)))))
 have ah := (H.f t z).f E z
 exact At.res (.inl z) z (.cell z (ae.runAg 0 [vi d.Num, vi d.Type_, vu d.V, (vl j l o)] ty68 z z z) .nil) ⟨(vl j l o), z, (se_ I z z), (Sl.outF ah I low0)⟩
theorem c_otlp_reader_attrs {A : Nat → Prop} {v0_1 : Value} {a0 : otlp_reader} {b0 : Nat} {a1 : List api_Fld} {v1 : Value} {w : World} (hb0 : w.heap[b0]? = some (.cells (List.toArray [vi a0.e, v0_1]) 74 (0, 0))) (hs1 : Sl rep_api_Fld w A v1 a1) (hA : ∀ k, A k → k ≠ b0) {r0 : List api_Pair} {q0 : otlp_reader} (h : otlp_reader_attrs a0 a1 = some (r0, q0)) : Rets Try.prog 33 [pt b0 0, v1] w (fun v w' => ∃ (u0 : Value), v = u0 ∧ Mod (fun k => k = b0) w w' ∧ RowF rep_api_Pair 65 w w' u0 r0 ∧ w'.heap[b0]? = some (.cells (List.toArray [vi q0.e, v0_1]) 74 (0, 0))) := by
 unfold otlp_reader_attrs at h
 refine Rets.enter Try.func33 z z ?_
 have bO : Blk 3 (Lg.OB b0 3 (Lg.O0 A)) w b0 74 [vi a0.e, v0_1] := ⟨(if_pos z), hb0⟩
 have ay : Sl rep_api_Fld w (imm (Lg.OB b0 3 (Lg.O0 A))) v1 a1 := (Sl.OB (Sl.start hs1) (fun k hk => (hA k (O0_A k hk))))
 refine (show WC _ _ _ _ [(0, pt b0 0), (1, v1)] _ from ?_)
 refine sq (rg (wY (ya z) z (nl (th (sq (rg (wY (ya z) z (nl (th ?_)))))))))
 refine sq (sq (rg (wY (ym z) z (wY (Y.len ty66 z ay) z (wY (ym z) z (nl (th (WC.block ?_))))))))
 obtain ⟨bH, h, bP⟩ := flow1 h
 obtain ⟨bI, h⟩ := loop_some h
 refine WC.joinB 0 (σ := (Int × List api_Pair × Own × Value)) (fun x w' => bH = .go (x.1, x.2.1) ∧ Stp [3, 11, 12, 1001] (Lg.OB b0 3 (Lg.O0 A)) w x.2.2.1 w' ∧ Blk 3 x.2.2.1 w' b0 74 [vi x.1, v0_1] ∧ OwnSl 1002 rep_api_Pair 65 x.2.2.1 w' x.2.2.2 x.2.1) (fun x => [(5, x.2.2.2)]) ?_ ?_
 ·refine WC.loop (σ := (Int × List api_Pair × Int × Own × Value)) (fun x k w' => loopN k (otlp_reader_attrs_lp1 a0 a1) (x.1, x.2.1, x.2.2.1) = some bH ∧ Stp [3, 11, 12, 1001] (Lg.OB b0 3 (Lg.O0 A)) w x.2.2.2.1 w' ∧ Blk 3 x.2.2.2.1 w' b0 74 [vi x.1, v0_1] ∧ OwnSl 1001 rep_api_Pair 65 x.2.2.2.1 w' x.2.2.2.2 x.2.1) (fun x => [(0, pt b0 0), (5, x.2.2.2.2), (9, v1), (10, vi (a1.length : Int)), (11, vi x.2.2.1)]) (a0.e, [], 0, (Lg.OB b0 3 (Lg.O0 A)), sn) bI (.cons z (.cons z (.cons z (.cons z (.cons z .nil))))) ⟨h, (sr_ _ _ _), bO, (OwnSl.nil 1001 rep_api_Pair 65)⟩ ?_
  rintro ⟨bJ, aT, P, cx, o⟩ bI cX ⟨h, F, ac, ad⟩
  obtain ⟨cy, dc, rfl, h, az⟩ := rnd1 h
  unfold otlp_reader_attrs_lp1 at h
  try dsimp only at h F ac ad
  refine (show WC _ _ _ _ [(0, pt b0 0), (5, o), (9, v1), (10, vi (a1.length : Int)), (11, vi P)] _ from ?_)
  refine sq (rg (wY (Y.lss_i z z) z (nl (th (sq ?_)))))
  rcases cnd h with ⟨ae, h⟩ | ⟨ae, h⟩
  ·refine WC.condT' z ae (sk (th (sq (WC.block (sq (rg ?_))))))
   obtain ⟨r, bQ, h⟩ := bnd h
   have bR := ay.i F z z
   obtain ⟨dd, cH, cI, cY, bS, bT, bU, af, aU, bW⟩ := Sl.at2 bR bQ
   obtain ⟨_, _, rfl, rfl, ⟨_, _, rfl, rfl, ⟨_, _, rfl, rfl, ⟨cz, rfl, bX⟩⟩⟩⟩ := aU
   replace af : CellsAt _ _ _ [vi r.Num, vi r.Type_, vu r.V, cz] := af
   have aW := CAt.imm af bW
   refine wY (Y.indexAddr ty66 ty68 z bS z bT bU) z (wY (yL ty68 z z aW.at_ z) z (WL.alloc (O := cx) 11 [vi 0, vi 0, vu 0, sn] ty68 z z ?_))
   intro de cA cZ G bY
   have aA := bX.i G z z
   have bZ := h
   obtain ⟨aC, aD, aE, rfl⟩ := aA.shape
   have h := bZ
   refine WL.store (v := ag [vi r.Num, vi r.Type_, vu r.V, (vl aC aD aE)]) (cells' := [vi r.Num, vi r.Type_, vu r.V, (vl aC aD aE)]) ty68 z z bY z (le_ z) z z ?_
   intro c0 H b1
   refine nl (th (sq (rg (wY (ym z) z (wY (yf fo68_3 z) z (wY (yl ty45 z z (b1.cell 3 _ z)) z (WL.makeMap (O := cA) 12 z ?_)))))))
   intro cC bK c1 I b2
   refine WL.insert (a := 1) (b := 2) ty77.u ty3.u z z z b2 z ?_
   intro c2 J ah
   replace ah : MBlk _ _ _ _ [(1, 2)] := ah
   refine WL.insert (a := 2) (b := 2) ty77.u ty3.u z z z ah z ?_
   intro c3 K Q
   replace Q : MBlk _ _ _ _ [(1, 2), (2, 2)] := Q
   refine wY (ym z) z ?_
   have S := ((((ac.st G z).st H z).st I z).st J z).st K z
   have ca := (((aA.i H z z).i I z z).i J z z).i K z z
   obtain ⟨⟨cD, bL⟩, cb, h⟩ := bnd h
   refine WL.call (vals := [pt b0 0, (vl aC aD aE), Value.map (some cC)]) kok32 z z (c_otlp_reader_open (A := out [3] bK) (a0 := (otlp_reader.mk bJ a0.out)) S.blk (Sl.notin (L := [3]) ca z z) ⟨_, z, (out_lab Q.lab z), Q.blk⟩ (fun k hk => out_ne S.lab z k hk) cb) ?_
   rintro T aF ⟨_, rfl, cc, cE, cF⟩
   obtain ⟨aj, aG, aH, ak⟩ := adopt bK (fun k => 1) [3] cc (memB S.lab rfl)
   have cd : Sl rep_api_Fld aF (frs aj) T cD := Sl.adoptF cE (fun k hk => ⟨hk, z⟩) aH
   have ce : Blk 3 aj aF b0 74 [vi bL.e, v0_1] := Blk.adopt S aG cF
   refine wY (ya z) z (nl (th (WC.drawH [1001] [0, 1, 2, 3, 4, 5, 6, 7, 8, 9, 10, 11, 12] aj 13 fmix z (by kernel_rfl) ?_)))
   intro cJ t
   refine WD.y 0 z (by kernel_rfl) (fun _ _ _ => ym z) z (WD.y 1 z (by kernel_rfl) (fun _ _ _ => ym z) z (WD.y 5 z (by kernel_rfl) (fun _ _ _ => ym z) z (WD.heavy 2 z (by kernel_rfl) ?_)))
   have U := cd.f t z
   obtain ⟨d, aX, h⟩ := bnd h
   refine WL.call (vals := [T, vi 1]) kok70 z z (c_otlp_last (A := fun _ => True) (Sl.all U) aX) ?_
   rintro cK al ⟨cf, rfl, aY, cg⟩
   obtain ⟨W, ct, au, j⟩ := adoptE aj (fun k => 1) aY
   have X : Sl Rep.b al (frs W) cf d.B := Sl.adoptF cg (fun k hk => ⟨hk, z⟩) au
   refine nl (At.dq (su_ j z) ?_)
   obtain ⟨ch, h, aZ⟩ := bnd h
   refine WD.join (σ := (List UInt8 × Own)) (f' := 4) [8, 7, 6, 5, 4, 3, 2, 1, 0] (fun x O' w' => x.1 = ch ∧ Stp [] W al x.2 w' ∧ x.2 = O') (fun x => [(0, pt b0 0), (5, o), (9, v1), (10, vi (a1.length : Int)), (11, vi P), (21, o), (25, vs d.B), (29, vs x.1)]) (fun am => ?_) ?_
   ·refine WD.heavy2 3 6 z z (by kernel_rfl) ?_ ?_
    ·refine wY (Y.fieldSc ty68.u z z z ty45 z z z) z (nl (At.dq (sr_ _ _ _) (WD.y 4 z (by kernel_rfl) (fun cL c4 aI => have a2 := X.f aI z; Y.b2s ty45 ty5 ty9 z a2) z (WD.heavy 6 z (by kernel_rfl) ?_))))
     have a3 := U.f j z
     obtain ⟨aJ, a4, h⟩ := bnd h
     refine WL.call (vals := [T, vi 2]) kok70 z z (c_otlp_last (A := fun _ => True) (Sl.all a3) a4) ?_
     rintro cM a5 ⟨ci, rfl, a6, cj⟩
     obtain ⟨aK, cu, av, aa⟩ := adoptE W (fun k => 1) a6
     have a7 : Sl Rep.b a5 (frs aK) ci aJ.B := Sl.adoptF cj (fun k hk => ⟨hk, z⟩) av
     refine nl (At.dq (su_ aa z) (WD.heavy 7 z (by kernel_rfl) (wY (Y.fieldSc ty68.u z z z ty45 z z z) z (nl (At.dq (sr_ _ _ _) (WD.y 8 z (by kernel_rfl) (fun cN c5 aL => have a8 := a7.f aL z; Y.b2s ty45 ty5 ty9 z a8) z (WD.perm _ [8, 7, 6, 5, 4, 3, 2, 1, 0] (by kernel_rfl) ?_)))))))
     exact am (aJ.B, aK) _ _ _ ⟨some1 h, (su_ aa z), z⟩ (.cons z (.cons z (.cons z (.cons z (.cons z (.cons z (.cons z (.cons z .nil))))))))
    ·try simp only [Option.bind_assoc] at h
     try simp only [Option.bind_some] at h
     have a9 := U.f j z
     obtain ⟨Z, ba, h⟩ := bnd h
     refine WL.call (vals := [T, vi 2]) kok70 z z (c_otlp_last (A := fun _ => True) (Sl.all a9) ba) ?_
     rintro cO an ⟨ck, rfl, bb, cl⟩
     obtain ⟨ai, cw, ax, C⟩ := adoptE W (fun k => 1) bb
     have ao : Sl Rep.b an (frs ai) ck Z.B := Sl.adoptF cl (fun k hk => ⟨hk, z⟩) ax
     refine nl (At.dq (su_ C z) ?_)
     (first | have hq := bnd (α := Unit) h | have hq := bndU h); obtain ⟨cm, h, bc⟩ := hq
     refine WD.join (σ := Unit) (f' := 4) [8, 7, 6, 5, 4, 3, 2, 1, 0] (fun x O' w' => () = cm ∧ an = w' ∧ ai = O') (fun x => [(0, pt b0 0), (5, o), (9, v1), (10, vi (a1.length : Int)), (11, vi P), (21, o), (25, vs d.B), (29, vs Z.B)]) (fun ap => ?_) ?_
     ·refine WD.heavy2 3 7 z z (by kernel_rfl) ?_ ?_
      ·refine wY (Y.fieldSc ty68.u z z z ty45 z z z) z (nl (At.dq (sr_ _ _ _) (WD.y 4 z (by kernel_rfl) (fun cP c6 aM => have bd := X.f C z; have bf := bd.f aM z; Y.b2s ty45 ty5 ty9 z bf) z (WD.heavy 7 z (by kernel_rfl) (wY (Y.fieldSc ty68.u z z z ty45 z z z) z (nl (At.dq (sr_ _ _ _) (WD.y 8 z (by kernel_rfl) (fun cQ c7 aN => have bg := ao.f aN z; Y.b2s ty45 ty5 ty9 z bg) z (WD.perm _ [8, 7, 6, 5, 4, 3, 2, 1, 0] (by kernel_rfl) ?_)))))))))
       exact ap () _ _ _ ⟨z, z, z⟩ (.cons z (.cons z (.cons z (.cons z (.cons z (.cons z (.cons z (.cons z .nil))))))))
      ·try simp only [Option.bind_assoc] at h
       try simp only [Option.bind_some] at h
       refine wY (Y.fieldSc ty68.u z z z ty45 z z z) z (nl (At.dq (sr_ _ _ _) (WD.y 8 z (by kernel_rfl) (fun cR c8 aO => have bh := ao.f aO z; Y.b2s ty45 ty5 ty9 z bh) z (WD.heavy 3 z (by kernel_rfl) (wY (Y.fieldSc ty68.u z z z ty45 z z z) z (nl (At.dq (sr_ _ _ _) (WD.y 4 z (by kernel_rfl) (fun cS c9 aP => have bi := X.f C z; have bj := bi.f aP z; Y.b2s ty45 ty5 ty9 z bj) z (WD.perm _ [8, 7, 6, 5, 4, 3, 2, 1, 0] (by kernel_rfl) ?_)))))))))
       exact ap () _ _ _ ⟨z, z, z⟩ (.cons z (.cons z (.cons z (.cons z (.cons z (.cons z (.cons z (.cons z .nil))))))))
     ·rintro _ _ _ ⟨rfl, rfl, rfl⟩
      replace h := bc
      refine (show WD _ _ _ _ _ _ _ _ [(0, pt b0 0), (5, o), (9, v1), (10, vi (a1.length : Int)), (11, vi P), (21, o), (25, vs d.B), (29, vs Z.B)] _ _ from ?_)
      refine WD.perm _ [8, 7, 6, 5, 4, 3, 2, 1, 0] (by kernel_rfl) ?_
      exact am (Z.B, ai) _ _ _ ⟨some1 h, (su_ C z), z⟩ (.cons z (.cons z (.cons z (.cons z (.cons z (.cons z (.cons z (.cons z .nil))))))))
   ·rintro ⟨l, cn⟩ _ cT ⟨rfl, D, rfl⟩
    replace h := aZ
    try dsimp only at h D
    refine (show WD _ _ _ _ _ _ _ _ [(0, pt b0 0), (5, o), (9, v1), (10, vi (a1.length : Int)), (11, vi P), (21, o), (25, vs d.B), (29, vs l)] _ _ from ?_)
    refine WD.y 9 z (by kernel_rfl) (fun _ _ _ => yb (vals := [(0, vs d.B), (1, vs l)]) (cells := [vs d.B, vs l]) (fe_ z) (by kernel_rfl)) z (WD.heavy 10 z (by kernel_rfl) (WL.buildSlice (O := cn) (R := rep_api_Pair) (vals := [(0, ag [vs d.B, vs l])]) 13 [vs d.B, vs l] (xs := [(api_Pair.mk d.B l)]) (by decide) ty25 ty65 (by decide) (by decide) (fe_ z) (by kernel_rfl) z ⟨[vs d.B, vs l], [], z, ⟨[vs d.B], [vs l], z, z, z⟩, z⟩ z ?_))
    intro da db cU E bk
    refine nl (At.dq (su_ E z) (WD.heavy 11 z (by kernel_rfl) ?_))
    obtain ⟨bl, aQ, h⟩ := bnd h
    have bw := (((((((((ad.st G z z z).st H z z z).st I z z z).st J z z z).st K z z z).st ak z z z).st t z z z).st j z z z).st D z z z).st E z z z
    refine WL.append (by decide) ty25 ty65 z (by decide) z z bw bk.src aQ z ?_
    intro co cq cV M bx
    refine nl (At.dq (su_ M z) (WD.y 12 z (by kernel_rfl) (fun _ _ _ => ya z) z (WD.done_ (by kernel_rfl) (At.inBlock (th (rg (wY (Y.add_i z z) z (wY (ym z) z (nl ?_)))))))))
    have bD := ((((ce.st t z).st j z).st D z).st E z).st M z
    exact At.round (bL.e, bl, w64 (P + 1), cq, co) cy (Nat.lt_succ_self _) ⟨next1 h az, (tr_ (su_ F z) (tr_ (su_ G z) (tr_ (su_ H z) (tr_ (su_ I z) (tr_ (su_ J z) (tr_ (su_ K z) (tr_ (su_ ak z) (tr_ (su_ t z) (tr_ (su_ j z) (tr_ (su_ D z) (tr_ (su_ E z) (su_ M z)))))))))))), bD, bx⟩ (.cons z (.cons z (.cons z (.cons z (.cons z .nil)))))
  ·refine WC.condF' z ae (WC.exit (At.thenX (At.loopX ?_)))
   obtain ⟨cr, ab, bE⟩ := OwnSl.rlb 1002 rfl ad
   have bG := ac.st ab z
   exact At.hitB (σ := (Int × List api_Pair × Own × Value)) (bJ, aT, cr, o) ⟨brk1 h az, (tr_ (su_ F z) (su_ ab z)), bG, bE⟩ (.cons z .nil)
 ·rintro ⟨df, cW, cG, bM⟩ cs ⟨rfl, aq, aR, aS⟩
  replace h := flowK_go bP
  try dsimp only at h aq aR aS
  refine (show At _ _ _ [(5, bM)] _ from ?_)
  refine At.inBlockHit (th (sq (rg (wY (ym z) z (wY (ya z) z (nl (th (rt ?_))))))))
  obtain ⟨rfl, rfl⟩ := tup2 h
  have ar : Stp [3, 11, 12, 1001] (Lg.OB b0 3 (Lg.O0 A)) w cG cs := (su_ aq z)
  exact At.res (.inl z) z (.tmp z .nil) ⟨bM, z, (Stp.modL ar sB1 z z), (OwnSl.outF aS ar (lowB low0 z z) z), aR.blk⟩
theorem c_slices_Index_int_int {A : Nat → Prop} {a0 : List Int} {v0 : Value} {a1 : Int} {w : World} (hs0 : Sl Rep.i w A v0 a0) {r0 : Int} (h : slices_Index_int_int a0 a1 = some r0) : Rets Try.prog 122 [v0, vi a1] w (fun v w' => v = vi r0 ∧ Ext w w') := by
 unfold slices_Index_int_int at h
 refine Rets.enter Try.func122 z z ?_
 have r : Sl Rep.i w (imm (Lg.O0 A)) v0 a0 := (Sl.start hs0)
 refine (show WC _ _ _ _ [(0, v0), (1, vi a1)] _ from ?_)
 refine sq (rg (wY (ya z) z (nl (th (sq (sq (rg (wY (ym z) z (wY (Y.len ty121 z r) z ?_)))))))))
 refine wY (ym z) z (nl (th (WC.block ?_)))
 obtain ⟨E, h, t⟩ := flow1 h
 obtain ⟨F, h⟩ := loop_some h
 refine WC.joinB 0 (σ := Unit) (fun x w' => E = .go () ∧ w = w') (fun x => []) ?_ ?_
 ·refine WC.loop (σ := Int) (fun x k w' => loopN k (slices_Index_int_int_lp1 a0 a1) x = some E ∧ w = w') (fun x => [(0, v0), (1, vi a1), (7, vi (a0.length : Int)), (8, vi x)]) 0 F (.cons z (.cons z (.cons z (.cons z .nil)))) ⟨h, z⟩ ?_
  rintro G F _ ⟨h, rfl⟩
  obtain ⟨S, Z, rfl, h, d⟩ := rnd1 h
  unfold slices_Index_int_int_lp1 at h
  try dsimp only at h
  refine (show WC _ _ _ _ [(0, v0), (1, vi a1), (7, vi (a0.length : Int)), (8, vi G)] _ from ?_)
  refine sq (rg (wY (Y.lss_i z z) z (nl (th (sq ?_)))))
  rcases cnd h with ⟨j, h⟩ | ⟨j, h⟩
  ·refine WC.condT' z j (sk (th (sq (WC.block (sq (rg (wY (ym z) z (wY (ya z) z (nl ?_)))))))))
   refine th (sq (rg (wY (ym z) z (wY (ym z) z (wY (ym z) z ?_)))))
   obtain ⟨T, H, h⟩ := bnd h
   obtain ⟨aa, U, W, X, I, J, K, l, C, M⟩ := Sl.at2 r H
   obtain rfl := C
   replace l : CellsAt _ _ _ [vi T] := l
   have D := CAt.imm l M
   refine wY (Y.indexAddr ty121 ty3 z I z J K) z (wY (yl ty3 z z D.at_) z (wY (Y.eql_i z z) z (nl (th ?_))))
   rcases cnd h with ⟨o, h⟩ | ⟨o, h⟩
   ·refine WC.condT' z o (sq (rg (wY (ym z) z (wY (ya z) z (nl (th (rt (At.inBlockR (At.thenR ?_)))))))))
    refine At.loopR ?_
    have h := outr1 h d t
    refine At.joinBR (At.inBlockR (At.thenR ?_))
    obtain rfl := some1 h
    have P : Stp [] (Lg.O0 A) w (Lg.O0 A) w := (sr_ _ _ _)
    exact At.res (.inl z) z (.tmp z .nil) ⟨z, (se_ P z z)⟩
   ·refine WC.condF' z o (sk (At.inBlock (th (rg (wY (Y.add_i z z) z (wY (ym z) z (nl ?_)))))))
    exact At.round (w64 (G + 1)) S (Nat.lt_succ_self _) ⟨next1 h d, z⟩ (.cons z (.cons z (.cons z (.cons z .nil))))
  ·refine WC.condF' z j (WC.exit (At.thenX (At.loopX ?_)))
   exact At.hitB (σ := Unit) () ⟨brk1 h d, z⟩ .nil
 ·rintro _ _ ⟨rfl, rfl⟩
  replace h := flowK_go t
  refine (show At _ _ _ [] _ from ?_)
  refine At.inBlockHit (th (sq (rg (wY (ya z) z (nl (th (rt ?_)))))))
  obtain rfl := some1 h
  have Q : Stp [] (Lg.O0 A) w (Lg.O0 A) w := (sr_ _ _ _)
  exact At.res (.inl z) z (.tmp z .nil) ⟨z, (se_ Q z z)⟩
theorem c_slices_Contains_int_int {A : Nat → Prop} {a0 : List Int} {v0 : Value} {a1 : Int} {w : World} (hs0 : Sl Rep.i w A v0 a0) {r0 : Bool} (h : slices_Contains_int_int a0 a1 = some r0) : Rets Try.prog 113 [v0, vi a1] w (fun v w' => v = vB r0 ∧ Ext w w') := by
 unfold slices_Contains_int_int at h
 refine Rets.enter Try.func113 z z ?_
 have j : Sl Rep.i w (imm (Lg.O0 A)) v0 a0 := (Sl.start hs0)
 refine (show WC _ _ _ _ [(0, v0), (1, vi a1)] _ from ?_)
 refine sq (rg (wY (ya z) z (nl (th (sq (rg (wY (ym z) z (wY (ym z) z ?_))))))))
 obtain ⟨H, l, h⟩ := bnd h
 refine WL.call (vals := [v0, vi a1]) kok122 z z (c_slices_Index_int_int (A := fun _ => True) (Sl.all j) l) ?_
 rintro G o ⟨rfl, r⟩
 obtain ⟨D, E, F, d⟩ := adoptE (Lg.O0 A) (fun k => 1) r
 refine wY (Y.geq_i z z) z ?_
 obtain ⟨I, t, h⟩ := lt1 h
 refine WL.yE (ya z) (congrArg vB t.symm) z (nl (th (rt ?_)))
 obtain rfl := some1 h
 have C : Stp [] (Lg.O0 A) w D o := (su_ d z)
 exact At.res (.inl z) z (.tmp z .nil) ⟨z, (se_ C z z)⟩
theorem c_otlp_has {A : Nat → Prop} {a0 : List api_Fld} {v0 : Value} {a1 : List Int} {v1 : Value} {w : World} (hs0 : Sl rep_api_Fld w A v0 a0) (hs1 : Sl Rep.i w A v1 a1) {r0 : Bool} (h : otlp_has a0 a1 = some r0) : Rets Try.prog 94 [v0, v1] w (fun v w' => v = vB r0 ∧ Ext w w') := by
 unfold otlp_has at h
 refine Rets.enter Try.func94 z z ?_
 have ah : Sl rep_api_Fld w (imm (Lg.O0 A)) v0 a0 := (Sl.start hs0)
 have K : Sl Rep.i w (imm (Lg.O0 A)) v1 a1 := (Sl.start hs1)
 refine (show WC _ _ _ _ [(0, v0), (1, v1)] _ from ?_)
 refine sq (rg ?_)
 have ai := h
 obtain ⟨aa, ab, ac, rfl⟩ := K.shape
 have h := ai
 refine WL.box (O := (Lg.O0 A)) 11 [(vl aa ab ac)] z z z ?_
 intro l D o r aj
 refine wY (ya z) z (nl (th (sq (rg (wY (ym z) z (wY (Y.mkfunc (fv := []) (cv := [pt l 0]) z z) z ?_))))))
 obtain ⟨aL, h, ak⟩ := bnd h
 refine WL.callJ (vals := [v0, Value.func (.func 112) (List.toArray []) (List.toArray [pt l 0])]) (σ := (Bool × Own)) (fun x w' => x.1 = aL ∧ Stp [] D o x.2 w') (fun x => vB x.1) kok111 z z ?_ ?_
 ·refine Rets.enter Try.func111 z z ?_
  refine (show WC _ _ _ _ [(0, v0), (1, Value.func (.func 112) (List.toArray []) (List.toArray [pt l 0]))] _ from ?_)
  refine sq (rg (wY (ya z) z (nl (th (sq (rg (wY (ym z) z (wY (ym z) z ?_))))))))
  obtain ⟨aM, h, al⟩ := bnd h
  refine WL.callJ (vals := [v0, Value.func (.func 112) (List.toArray []) (List.toArray [pt l 0])]) (σ := (Int × Own)) (fun x w' => x.1 = aM ∧ Stp [] D o x.2 w') (fun x => vi x.1) kok121 z z ?_ ?_
  ·refine Rets.enter Try.func121 z z ?_
   refine (show WC _ _ _ _ [(0, v0), (1, Value.func (.func 112) (List.toArray []) (List.toArray [pt l 0]))] _ from ?_)
   refine sq (rg (wY (ya z) z (nl (th (sq (sq (rg (wY (ym z) z ?_))))))))
   have M := ah.i r z z
   refine wY (Y.len ty66 z M) z (wY (ym z) z (nl (th (WC.block ?_))))
   obtain ⟨ad, h, P⟩ := flow1 h
   obtain ⟨ae, h⟩ := loop_some h
   refine WC.joinB 0 (σ := Own) (fun x w' => ad = .go () ∧ Stp [] D o x w') (fun x => []) ?_ ?_
   ·refine WC.loop (σ := (Int × Own)) (fun x k w' => loopN k (otlp_has_lp1 a0 a1) x.1 = some ad ∧ Stp [] D o x.2 w') (fun x => [(0, v0), (1, Value.func (.func 112) (List.toArray []) (List.toArray [pt l 0])), (7, vi (a0.length : Int)), (8, vi x.1)]) (0, D) ae (.cons z (.cons z (.cons z (.cons z .nil)))) ⟨h, (sr_ _ _ _)⟩ ?_
    rintro ⟨Q, S⟩ ae am ⟨h, j⟩
    obtain ⟨aN, bg, rfl, h, E⟩ := rnd1 h
    unfold otlp_has_lp1 at h
    try dsimp only at h j
    refine (show WC _ _ _ _ [(0, v0), (1, Value.func (.func 112) (List.toArray []) (List.toArray [pt l 0])), (7, vi (a0.length : Int)), (8, vi Q)] _ from ?_)
    refine sq (rg (wY (Y.lss_i z z) z (nl (th (sq ?_)))))
    rcases cnd h with ⟨F, h⟩ | ⟨F, h⟩
    ·refine WC.condT' z F (sk (th (sq (WC.block (sq (rg (wY (ym z) z (wY (ya z) z (nl ?_)))))))))
     refine th (sq (rg (wY (ym z) z (wY (ym z) z (wY (ym z) z ?_)))))
     obtain ⟨d, an, h⟩ := bnd h
     have ao := M.i j z z
     obtain ⟨bh, a6, a7, a8, ap, aq, ar, G, U, au⟩ := Sl.at2 ao an
     obtain ⟨_, _, rfl, rfl, ⟨_, _, rfl, rfl, ⟨_, _, rfl, rfl, ⟨T, rfl, av⟩⟩⟩⟩ := U
     replace G : CellsAt _ _ _ [vi d.Num, vi d.Type_, vu d.V, T] := G
     have W := CAt.imm G au
     refine wY (Y.indexAddr ty66 ty68 z ap z aq ar) z (wY (yL ty68 z z W.at_ z) z ?_)
     obtain ⟨aO, h, ax⟩ := bnd h
     refine WL.callV (fv := []) (cv := [pt l 0]) (vals := [ag [vi d.Num, vi d.Type_, vu d.V, T]]) (σ := (Bool × Own)) (fun x w' => x.1 = aO ∧ Stp [] S am x.2 w') (fun x => vB x.1) kok112 z z z ?_ ?_
     ·refine Rets.enter Try.func112 z z ?_
      refine (show WC _ _ _ _ [(0, ag [vi d.Num, vi d.Type_, vu d.V, T]), (1, pt l 0)] _ from ?_)
      refine sq (rg ?_)
      have ay := h
      obtain ⟨aP, aQ, aR, rfl⟩ := av.shape
      have h := ay
      refine WL.box (O := S) 12 [vi d.Num, vi d.Type_, vu d.V, (vl aP aQ aR)] z z z ?_
      intro bi aS a9 t az
      refine wY (ya z) z (nl (th (sq (rg ?_))))
      have aC := (aj.st j z).st t z
      refine wY (yl ty121 z z (aC.cell 0 _ z)) z (wY (yf fo68_0 z) z (wY (yl ty3 z z (az.cell 0 _ z)) z ?_))
      have aF := ((K.i r z z).i j z z).i t z z
      obtain ⟨aT, aG, h⟩ := bnd h
      refine WL.call (vals := [(vl aa ab ac), vi d.Num]) kok113 z z (c_slices_Contains_int_int (A := fun _ => True) (Sl.all aF) aG) ?_
      rintro ba bb ⟨rfl, aH⟩
      obtain ⟨aU, aW, aX, X⟩ := adoptE aS (fun k => 1) aH
      refine wY (ya z) z (nl (th (rt ?_)))
      exact At.res (.inl z) z (.tmp z .nil) ⟨(aT, aU), ⟨some1 h, (tr_ (su_ t z) (su_ X z))⟩, z⟩
     ·rintro ⟨x64, af⟩ bc ⟨rfl, C⟩
      replace h := ax
      try dsimp only at h C
      refine (show WL _ _ _ _ _ ((16, vB x64) :: _) _ from ?_)
      refine nl (th ?_)
      rcases cnd h with ⟨H, h⟩ | ⟨H, h⟩
      ·refine WC.condT' z H (sq (rg (wY (ym z) z (wY (ya z) z (nl (th (rt (At.inBlockR (At.thenR ?_)))))))))
       refine At.loopR ?_
       have h := outr1 h E P
       refine At.joinBR (At.inBlockR (At.thenR ?_))
       exact At.res (.inl z) z (.tmp z .nil) ⟨(Q, af), ⟨some1 h, (tr_ (su_ j z) (su_ C z))⟩, z⟩
      ·refine WC.condF' z H (sk (At.inBlock (th (rg (wY (Y.add_i z z) z (wY (ym z) z (nl ?_)))))))
       exact At.round (w64 (Q + 1), af) aN (Nat.lt_succ_self _) ⟨next1 h E, (tr_ (su_ j z) (su_ C z))⟩ (.cons z (.cons z (.cons z (.cons z .nil))))
    ·refine WC.condF' z F (WC.exit (At.thenX (At.loopX ?_)))
     exact At.hitB (σ := Own) S ⟨brk1 h E, (su_ j z)⟩ .nil
   ·rintro aY bd ⟨rfl, Z⟩
    replace h := flowK_go P
    refine (show At _ _ _ [] _ from ?_)
    refine At.inBlockHit (th (sq (rg (wY (ya z) z (nl (th (rt ?_)))))))
    exact At.res (.inl z) z (.tmp z .nil) ⟨((-1), aY), ⟨some1 h, (su_ Z z)⟩, z⟩
  ·rintro ⟨aZ, a2⟩ bf ⟨rfl, I⟩
   replace h := al
   try dsimp only at h I
   refine (show WL _ _ _ _ _ ((7, vi aZ) :: _) _ from ?_)
   refine wY (Y.geq_i z z) z ?_
   obtain ⟨a3, aI, h⟩ := lt1 h
   refine WL.yE (ya z) (congrArg vB aI.symm) z (nl (th (rt ?_)))
   exact At.res (.inl z) z (.tmp z .nil) ⟨(a3, a2), ⟨some1 h, (su_ I z)⟩, z⟩
 ·rintro ⟨a4, a5⟩ aJ ⟨rfl, J⟩
  replace h := ak
  try dsimp only at h J
  refine (show WL _ _ _ _ _ ((7, vB a4) :: _) _ from ?_)
  refine wY (ya z) z (nl (th (rt ?_)))
  obtain rfl := some1 h
  have aK : Stp [] (Lg.O0 A) w a5 aJ := (tr_ (su_ r z) (su_ J z))
  exact At.res (.inl z) z (.tmp z .nil) ⟨z, (se_ aK z z)⟩
theorem c_otlp_form {A : Nat → Prop} {a0 : List api_Fld} {v0 : Value} {a1 : Int} {w : World} (hs0 : Sl rep_api_Fld w A v0 a0) {r0 : Bool} (h : otlp_form a0 a1 = some r0) : Rets Try.prog 92 [v0, vi a1] w (fun v w' => v = vB r0 ∧ Ext w w') := by
 unfold otlp_form at h
 refine Rets.enter Try.func92 z z ?_
 have ah : Sl rep_api_Fld w (imm (Lg.O0 A)) v0 a0 := (Sl.start hs0)
 refine (show WC _ _ _ _ [(0, v0), (1, vi a1)] _ from ?_)
 refine sq (rg (wY (ya z) z (nl (th (sq (rg (wY (ym z) z ?_)))))))
 obtain ⟨a5, av, h⟩ := bnd h
 refine WL.call (vals := [v0, vi 4]) kok31 z z (c_wire_All (A := fun _ => True) (Sl.all ah) av) ?_
 rintro ax ay ⟨_, rfl, az, a6⟩
 obtain ⟨au, a7, ai, l⟩ := adoptE (Lg.O0 A) (fun k => 1) az
 have aA : Sl rep_api_Fld ay (frs au) ax a5 := Sl.adoptF a6 (fun k hk => ⟨hk, z⟩) ai
 refine wY (Y.len ty66 z aA) z (wY (ym z) z ?_)
 have K := ah.i l z z
 obtain ⟨a8, aC, h⟩ := bnd h
 refine WL.call (vals := [v0, vi 6]) kok31 z z (c_wire_All (A := fun _ => True) (Sl.all K) aC) ?_
 rintro aD t ⟨_, rfl, aE, a9⟩
 obtain ⟨D, ba, aj, j⟩ := adoptE au (fun k => 1) aE
 have aF : Sl rep_api_Fld t (frs D) aD a8 := Sl.adoptF a9 (fun k hk => ⟨hk, z⟩) aj
 refine wY (Y.len ty66 z aF) z ?_
 obtain ⟨d, af, h⟩ := lt1 h
 refine WL.yE (ya z) (congrArg vi af.symm) z ?_
 obtain ⟨o, ak, h⟩ := lt1 h
 refine WL.yE (ya z) (congrArg vi ak.symm) z (nl (th (sq (WC.block (sq (sq (rg (wY (ym z) z (wY (Y.eql_i z z) z ?_)))))))))
 refine wY (ym z) z ?_
 refine WL.cut 5 (σ := Unit) (fun _ w' => t = w') (fun _ => [(0, v0), (1, vi a1), (5, vi d), (6, vi o), (21, vB ((decide (a1 = 2)) && (!decide (w64 (d + o) = 1))))]) ?_ ?_
 ·refine WL.part 16 z (fun M => ?_) (fun M => ?_)
  ·refine ug z z (wY (ym z) z (ug z z (wY (ym z) z (ug z z (wY (Y.add_i z z) z (ug z z (wY (Y.neq_i z z) z (wY (Y.pick (b := true) z z) z (WL.ren (v' := vB ((decide (a1 = 2)) && (!decide (w64 (d + o) = 1)))) 21 z (congrArg vB (andT M)) ?_)))))))))
   exact nl (At.join () z (.cons z (.cons z (.cons z (.cons z (.cons z .nil))))))
  ·refine WL.gS z z z z (WL.gS z z z z (WL.gS z z z z (WL.gS z z z z (wY (Y.pick (b := false) z z) z (WL.ren (v' := vB ((decide (a1 = 2)) && (!decide (w64 (d + o) = 1)))) 21 z (congrArg vB (andF M)) ?_)))))
   exact nl (At.join () z (.cons z (.cons z (.cons z (.cons z (.cons z .nil))))))
 ·rintro _ _ rfl
  refine (show WL _ _ _ _ _ [(0, v0), (1, vi a1), (5, vi d), (6, vi o), (21, vB ((decide (a1 = 2)) && (!decide (w64 (d + o) = 1))))] _ from ?_)
  obtain ⟨bA, aG, h⟩ := lt1 h
  refine WL.yE (ya z) (congrArg vB aG.symm) z (nl (th ?_))
  rcases cnd h with ⟨P, h⟩ | ⟨P, h⟩
  ·refine WC.condT' z P (sk (th ?_))
   rcases cnd h with ⟨Q, h⟩ | ⟨Q, h⟩
   ·refine WC.condT' z Q (sq (rg (wY (ya z) z (nl (th (rt (At.inBlockR (At.thenR ?_))))))))
    obtain rfl := some1 h
    have aH : Stp [] (Lg.O0 A) w D t := (tr_ (su_ l z) (su_ j z))
    exact At.res (.inl z) z (.tmp z .nil) ⟨z, (se_ aH z z)⟩
   ·refine WC.condF' z Q (sk (At.inBlock (th (sq (rg (wY (ya z) z (nl (th (rt ?_)))))))))
    obtain rfl := some1 h
    have aI : Stp [] (Lg.O0 A) w D t := (tr_ (su_ l z) (su_ j z))
    exact At.res (.inl z) z (.tmp z .nil) ⟨z, (se_ aI z z)⟩
  ·refine WC.condF' z P (sq (rg (wY (ym z) z (wY (Y.neq_i z z) z (wY (ym z) z ?_)))))
   refine WL.cut 3 (σ := Unit) (fun _ w' => t = w') (fun _ => [(0, v0), (1, vi a1), (5, vi d), (27, vB ((!decide (a1 = 2)) && (decide (0 < o))))]) ?_ ?_
   ·refine WL.part 24 z (fun S => ?_) (fun S => ?_)
    ·refine ug z z (wY (ym z) z (ug z z (wY (Y.gtr_i z z) z (wY (Y.pick (b := true) z z) z (WL.ren (v' := vB ((!decide (a1 = 2)) && (decide (0 < o)))) 27 z (congrArg vB (andT S)) ?_)))))
     exact nl (At.join () z (.cons z (.cons z (.cons z (.cons z .nil)))))
    ·refine WL.gS z z z z (WL.gS z z z z (wY (Y.pick (b := false) z z) z (WL.ren (v' := vB ((!decide (a1 = 2)) && (decide (0 < o)))) 27 z (congrArg vB (andF S)) ?_)))
     exact nl (At.join () z (.cons z (.cons z (.cons z (.cons z .nil)))))
   ·rintro _ _ rfl
    refine (show WL _ _ _ _ _ [(0, v0), (1, vi a1), (5, vi d), (27, vB ((!decide (a1 = 2)) && (decide (0 < o))))] _ from ?_)
    obtain ⟨bB, aJ, h⟩ := lt1 h
    refine WL.yE (ya z) (congrArg vB aJ.symm) z (nl (th ?_))
    rcases cnd h with ⟨T, h⟩ | ⟨T, h⟩
    ·refine WC.condT' z T (sk (th ?_))
     rcases cnd h with ⟨U, h⟩ | ⟨U, h⟩
     ·refine WC.condT' z U (sq (rg (wY (ya z) z (nl (th (rt (At.inBlockR (At.thenR ?_))))))))
      obtain rfl := some1 h
      have aK : Stp [] (Lg.O0 A) w D t := (tr_ (su_ l z) (su_ j z))
      exact At.res (.inl z) z (.tmp z .nil) ⟨z, (se_ aK z z)⟩
     ·refine WC.condF' z U (sk (At.inBlock (th (sq (rg (wY (ya z) z (nl (th (rt ?_)))))))))
      obtain rfl := some1 h
      have aL : Stp [] (Lg.O0 A) w D t := (tr_ (su_ l z) (su_ j z))
      exact At.res (.inl z) z (.tmp z .nil) ⟨z, (se_ aL z z)⟩
    ·refine WC.condF' z T (sq (rg (wY (ym z) z (wY (Y.neq_i z z) z (wY (ym z) z ?_)))))
     obtain ⟨bb, h, aM⟩ := bnd h
     refine WL.cut 4 (σ := (Bool × Own)) (fun x w' => x.1 = bb ∧ Stp [] D t x.2 w') (fun x => [(0, v0), (1, vi a1), (5, vi d), (34, vB x.1)]) ?_ ?_
     ·rcases cnd h with ⟨W, h⟩ | ⟨W, h⟩
      ·refine WL.ren 30 z (congrArg vB W) (ug z z (wY (ym z) z (ug z z (WL.buildSlice (O := D) (R := Rep.i) (vals := [(0, vi 31)]) 11 [vi 31] (xs := [31]) (by decide) ty121 ty3 (by decide) (by decide) (fe_ z) (by kernel_rfl) z ⟨[vi 31], [], z, z, z⟩ z ?_))))
       intro bc bd br ac aN
       refine ug z z ?_
       have aP := (K.i j z z).i ac z z
       obtain ⟨bf, aQ, h⟩ := bnd h
       refine WL.call (vals := [v0, bc]) kok94 z z (c_otlp_has (A := fun _ => True) (Sl.all aP) (aN.src.sl) aQ) ?_
       rintro bs bt ⟨rfl, aR⟩
       obtain ⟨bg, bh, bi, am⟩ := adoptE bd (fun k => 1) aR
       refine wY (Y.pick (b := true) z z) z ?_
       exact nl (At.join (σ := (Bool × Own)) (bf, bg) ⟨some1 h, (tr_ (su_ ac z) (su_ am z))⟩ (.cons z (.cons z (.cons z (.cons z .nil)))))
      ·refine WL.ren 30 z (congrArg vB W) (WL.gS z z z z (WL.gS z z z z (WL.gS z z z z (wY (Y.pick (b := false) z z) z ?_))))
       exact nl (At.join (σ := (Bool × Own)) (false, D) ⟨some1 h, (sr_ _ _ _)⟩ (.cons z (.cons z (.cons z (.cons z .nil)))))
     ·rintro ⟨bj, J⟩ X ⟨rfl, r⟩
      replace h := aM
      try dsimp only at h r
      refine (show WL _ _ _ _ _ [(0, v0), (1, vi a1), (5, vi d), (34, vB bj)] _ from ?_)
      refine wY (ya z) z (nl (th ?_))
      rcases cnd h with ⟨Z, h⟩ | ⟨Z, h⟩
      ·refine WC.condT' z Z (sk (th ?_))
       rcases cnd h with ⟨aa, h⟩ | ⟨aa, h⟩
       ·refine WC.condT' z aa (sq (rg (wY (ya z) z (nl (th (rt (At.inBlockR (At.thenR ?_))))))))
        obtain rfl := some1 h
        have aS : Stp [] (Lg.O0 A) w J X := (tr_ (su_ l z) (tr_ (su_ j z) (su_ r z)))
        exact At.res (.inl z) z (.tmp z .nil) ⟨z, (se_ aS z z)⟩
       ·refine WC.condF' z aa (sk (At.inBlock (th (sq (rg (wY (ya z) z (nl (th (rt ?_)))))))))
        obtain rfl := some1 h
        have aT : Stp [] (Lg.O0 A) w J X := (tr_ (su_ l z) (tr_ (su_ j z) (su_ r z)))
        exact At.res (.inl z) z (.tmp z .nil) ⟨z, (se_ aT z z)⟩
      ·refine WC.condF' z Z (sq (rg (wY (ym z) z (wY (Y.neq_i z z) z (wY (ym z) z ?_)))))
       obtain ⟨bk, h, aU⟩ := bnd h
       refine WL.cut 4 (σ := (Bool × Own)) (fun x w' => x.1 = bk ∧ Stp [] J X x.2 w') (fun x => [(1, vi a1), (5, vi d), (41, vB x.1)]) ?_ ?_
       ·rcases cnd h with ⟨ab, h⟩ | ⟨ab, h⟩
        ·refine WL.ren 37 z (congrArg vB ab) (ug z z (wY (ym z) z (ug z z (WL.buildSlice (O := J) (R := Rep.i) (vals := [(0, vi 8), (1, vi 9), (2, vi 10), (3, vi 11)]) 12 [vi 8, vi 9, vi 10, vi 11] (xs := [8, 9, 10, 11]) (by decide) ty121 ty3 (by decide) (by decide) (fe_ z) (by kernel_rfl) z ⟨[vi 8], [vi 9, vi 10, vi 11], z, z, ⟨[vi 9], [vi 10, vi 11], z, z, ⟨[vi 10], [vi 11], z, z, ⟨[vi 11], [], z, z, z⟩⟩⟩⟩ z ?_))))
         intro bl bm bu ad aW
         refine ug z z ?_
         have aZ := ((K.i j z z).i r z z).i ad z z
         obtain ⟨bn, a2, h⟩ := bnd h
         refine WL.call (vals := [v0, bl]) kok94 z z (c_otlp_has (A := fun _ => True) (Sl.all aZ) (aW.src.sl) a2) ?_
         rintro bw bx ⟨rfl, a3⟩
         obtain ⟨bo, bp, a4, al⟩ := adoptE bm (fun k => 1) a3
         refine wY (Y.pick (b := true) z z) z ?_
         exact nl (At.join (σ := (Bool × Own)) (bn, bo) ⟨some1 h, (tr_ (su_ ad z) (su_ al z))⟩ (.cons z (.cons z (.cons z .nil))))
        ·refine WL.ren 37 z (congrArg vB ab) (WL.gS z z z z (WL.gS z z z z (WL.gS z z z z (wY (Y.pick (b := false) z z) z ?_))))
         exact nl (At.join (σ := (Bool × Own)) (false, J) ⟨some1 h, (sr_ _ _ _)⟩ (.cons z (.cons z (.cons z .nil))))
       ·rintro ⟨bq, ae⟩ E ⟨rfl, C⟩
        replace h := aU
        try dsimp only at h C
        refine (show WL _ _ _ _ _ [(1, vi a1), (5, vi d), (41, vB bq)] _ from ?_)
        refine wY (ya z) z (nl (th ?_))
        rcases cnd h with ⟨F, h⟩ | ⟨F, h⟩
        ·refine WC.condT' z F (sk (th ?_))
         rcases cnd h with ⟨G, h⟩ | ⟨G, h⟩
         ·refine WC.condT' z G (sq (rg (wY (ya z) z (nl (th (rt (At.inBlockR (At.thenR ?_))))))))
          obtain rfl := some1 h
          have an : Stp [] (Lg.O0 A) w ae E := (tr_ (su_ l z) (tr_ (su_ j z) (tr_ (su_ r z) (su_ C z))))
          exact At.res (.inl z) z (.tmp z .nil) ⟨z, (se_ an z z)⟩
         ·refine WC.condF' z G (sk (At.inBlock (th (sq (rg (wY (ya z) z (nl (th (rt ?_)))))))))
          obtain rfl := some1 h
          have ao : Stp [] (Lg.O0 A) w ae E := (tr_ (su_ l z) (tr_ (su_ j z) (tr_ (su_ r z) (su_ C z))))
          exact At.res (.inl z) z (.tmp z .nil) ⟨z, (se_ ao z z)⟩
        ·refine WC.condF' z F (rg (wY (ym z) z (wY (Y.eql_i z z) z (wY (ym z) z ?_))))
         refine WL.cut 3 (σ := Unit) (fun _ w' => E = w') (fun _ => [(47, vB ((decide (a1 = 4)) && (decide (0 < d))))]) ?_ ?_
         ·refine WL.part 44 z (fun H => ?_) (fun H => ?_)
          ·refine ug z z (wY (ym z) z (ug z z (wY (Y.gtr_i z z) z (wY (Y.pick (b := true) z z) z (WL.ren (v' := vB ((decide (a1 = 4)) && (decide (0 < d)))) 47 z (congrArg vB (andT H)) ?_)))))
           exact nl (At.join () z (.cons z .nil))
          ·refine WL.gS z z z z (WL.gS z z z z (wY (Y.pick (b := false) z z) z (WL.ren (v' := vB ((decide (a1 = 4)) && (decide (0 < d)))) 47 z (congrArg vB (andF H)) ?_)))
           exact nl (At.join () z (.cons z .nil))
         ·rintro _ _ rfl
          refine (show WL _ _ _ _ _ [(47, vB ((decide (a1 = 4)) && (decide (0 < d))))] _ from ?_)
          obtain ⟨bz, ap, h⟩ := lt1 h
          refine WL.yE (ya z) (congrArg vB ap.symm) z (nl (th ?_))
          rcases cnd h with ⟨I, h⟩ | ⟨I, h⟩
          ·refine WC.condT' z I (sq (rg (wY (ya z) z (nl (th (rt (At.inBlockR (At.thenR ?_))))))))
           obtain rfl := some1 h
           have aq : Stp [] (Lg.O0 A) w ae E := (tr_ (su_ l z) (tr_ (su_ j z) (tr_ (su_ r z) (su_ C z))))
           exact At.res (.inl z) z (.tmp z .nil) ⟨z, (se_ aq z z)⟩
          ·refine WC.condF' z I (sk (At.inBlock (th (sq (rg (wY (ya z) z (nl (th (rt ?_)))))))))
           obtain rfl := some1 h
           have ar : Stp [] (Lg.O0 A) w ae E := (tr_ (su_ l z) (tr_ (su_ j z) (tr_ (su_ r z) (su_ C z))))
           exact At.res (.inl z) z (.tmp z .nil) ⟨z, (se_ ar z z)⟩
theorem c_slices_Grow_api_Pair_api_Pair {a1 : Int} {w : World} {r0 : List api_Pair} (h : slices_Grow_api_Pair_api_Pair a1 = some r0) : Rets Try.prog 110 [sn, vi a1] w (fun v w' => ∃ (u0 : Value), v = u0 ∧ Ext w w' ∧ RowF rep_api_Pair 65 w w' u0 r0) := by
  unfold slices_Grow_api_Pair_api_Pair at h
  rcases cnd h with ⟨hc, h⟩ | ⟨_, h⟩
  case inr => cases h
  obtain rfl := some1 h
  simp only [Bool.and_eq_true, decide_eq_true_eq] at hc
  have l : w64 (0 - 0) = 0 := by decide +kernel
  have o : w64 (a1 - w64 (0 - 0)) = a1 := by rw [l, Int.sub_zero]; unfold w64; omega
  refine Rets.enter Try.func110 z z ?_
  refine (show WC _ _ _ _ [(0, .slice none 0 0), (1, vi a1)] _ from ?_)
  refine sq (rg (wY (ya z) z (nl (th ?_))))
  refine sq (sq (rg ?_))
  refine wY (ym z) z ?_
  refine wY (Y.lss_i (b := 0) z z) z (nl (th ?_))
  refine WC.condF (congrArg (fun b => some (vB b)) (decide_eq_false (p := a1 < 0) (by omega))) (sk (th ?_))
  refine sq (sq (rg ?_))
  refine wY (ym z) z (wY (ym z) z (wY (Y.cap ty25 z) z (wY (ym z) z (wY (Y.lenv ty25 z) z ?_))))
  refine wY (Y.sub_i (a := 0) (b := 0) z z) z (WL.yE (Y.sub_i (a := a1) (b := w64 (0 - 0)) z z) (congrArg vi o) z ?_)
  refine wY (ya z) z (nl (th (sq (rg ?_))))
  refine wY (ym z) z ?_
  refine wY (Y.gtr_i (b := 0) z z) z (nl (th ?_))
  by_cases hp : 0 < a1
  · refine WC.condT (congrArg (fun b => some (vB b)) (decide_eq_true (p := 0 < a1) hp)) (rg ?_)
    refine wY (ym z) z (wY (ym z) z (wY (Y.cap ty25 z) z (wY (Y.sliceNil ty25 ty65 z z) z (wY (ym z) z ?_))))
    refine WL.appendMk (O := Lg.O0 (fun _ => False)) (R := rep_api_Pair) (u := (api_Pair.mk [] [])) 11 (by decide) ty25 ty3.u ty65 (by decide) (by decide) (by decide) z z ⟨hp, by unfold LIM; omega⟩ (fun _ _ => ⟨[vs []], [vs []], z, z, z⟩) z ?_
    intro E C D j r
    refine wY (ym z) z (wY (Y.lenv ty25 z) z ?_)
    refine WL.sliceOwn ty25 ty65 z z z r (show slc (List.replicate a1.toNat _) 0 0 = some [] from by unfold slc; rw [if_pos ⟨Int.le_refl _, Int.le_refl _, by rw [List.length_replicate]; omega⟩]; exact z) z ?_
    intro F t
    refine wY (ya z) z (nl (th ?_))
    refine sq (rg (wY (ym z) z (wY (ya z) z (nl (th (rt ?_))))))
    have d : Stp [] (Lg.O0 (fun _ => False)) w C D := (su_ j z)
    exact At.res (.inl z) z (.tmp z .nil) ⟨_, z, se_ d z z, OwnSl.outF t d low0 z⟩
  · refine WC.condF (congrArg (fun b => some (vB b)) (decide_eq_false (p := 0 < a1) hp)) (sk (th ?_))
    refine sq (rg (wY (ym z) z (wY (ya z) z (nl (th (rt ?_))))))
    exact At.res (.inl z) z (.tmp z .nil) ⟨_, z, Ext.refl w, RowF.nil⟩
theorem c_slices_Concat_api_Pair_api_Pair {A : Nat → Prop} {a0 : List (List api_Pair)} {v0 : Value} {w : World} (hs0 : Sl (Rep.sl rep_api_Pair) w A v0 a0) {r0 : List api_Pair} (h : slices_Concat_api_Pair_api_Pair a0 = some r0) : Rets Try.prog 93 [v0] w (fun v w' => ∃ (u0 : Value), v = u0 ∧ Ext w w' ∧ RowF rep_api_Pair 65 w w' u0 r0) := by
 unfold slices_Concat_api_Pair_api_Pair at h
 refine Rets.enter Try.func93 z z ?_
 have C : Sl (Rep.sl rep_api_Pair) w (imm (Lg.O0 A)) v0 a0 := (Sl.start hs0)
 refine (show WC _ _ _ _ [(0, v0)] _ from ?_)
 refine sq (rg (wY (ya z) z (nl (th (sq (rg (wY (ya z) z (nl (th ?_)))))))))
 refine sq (sq (rg (wY (ym z) z (wY (Y.len ty168 z C) z (wY (ym z) z (nl (th ?_)))))))
 obtain ⟨a1, h, aA⟩ := bnd h
 refine WC.join (σ := Int) (fun x w' => x = a1 ∧ w = w') (fun x => [(0, v0), (3, vi x)]) ?_ ?_
 ·refine WC.block ?_
  obtain ⟨ap, h, aC⟩ := flow1 h
  obtain ⟨aq, h⟩ := loop_some h
  refine WC.joinB 0 (σ := Int) (fun x w' => ap = .go x ∧ w = w') (fun x => [(0, v0), (3, vi x)]) ?_ ?_
  ·refine WC.loop (σ := (Int × Int)) (fun x k w' => loopN k (slices_Concat_api_Pair_api_Pair_lp1 a0) (x.1, x.2) = some ap ∧ w = w') (fun x => [(0, v0), (3, vi x.1), (9, v0), (10, vi (a0.length : Int)), (11, vi x.2)]) (0, 0) aq (.cons z (.cons z (.cons z (.cons z (.cons z .nil))))) ⟨h, z⟩ ?_
   rintro ⟨l, M⟩ aq _ ⟨h, rfl⟩
   obtain ⟨a2, bm, rfl, h, U⟩ := rnd1 h
   unfold slices_Concat_api_Pair_api_Pair_lp1 at h
   try dsimp only at h
   refine (show WC _ _ _ _ [(0, v0), (3, vi l), (9, v0), (10, vi (a0.length : Int)), (11, vi M)] _ from ?_)
   refine sq (rg (wY (Y.lss_i z z) z (nl (th (sq ?_)))))
   rcases cnd h with ⟨D, h⟩ | ⟨D, h⟩
   ·refine WC.condT' z D (sk (th (sq ?_)))
    obtain ⟨a3, h, aD⟩ := bnd h
    refine WC.join (σ := Int) (fun x w' => x = a3 ∧ w = w') (fun x => [(0, v0), (3, vi x), (9, v0), (10, vi (a0.length : Int)), (11, vi M)]) ?_ ?_
    ·refine WC.block (sq (rg ?_))
     obtain ⟨bn, aE, h⟩ := bnd h
     obtain ⟨bo, bd, bf, bi, aF, aG, aH, E, ae, aI⟩ := Sl.at2 C aE
     obtain ⟨a4, rfl, aJ⟩ := ae
     replace E : CellsAt _ _ _ [a4] := E
     have af := CAt.imm E aI
     refine wY (Y.indexAddr ty168 ty25 z aF z aG aH) z (wY (yl ty25 z z af.at_) z (wY (ya z) z (nl (th (sq (rg (wY (ym z) z (wY (ym z) z (wY (Y.len ty25 z aJ) z ?_)))))))))
     refine wY (Y.add_i z z) z ?_
     obtain ⟨W, T, h⟩ := lt1 h
     refine WL.yE (ya z) (congrArg vi T.symm) z (nl (th (sq (rg (wY (ym z) z (wY (Y.lss_i z z) z (nl (th ?_))))))))
     rcases cnd h with ⟨F, h⟩ | ⟨F, h⟩
     ·refine WC.condT' z F (rg ?_)
      cases h
     ·refine WC.condF' z F (sk (At.inBlock ?_))
      exact At.join (σ := Int) W ⟨some1 h, z⟩ (.cons z (.cons z (.cons z (.cons z (.cons z .nil)))))
    ·rintro o _ ⟨rfl, rfl⟩
     replace h := aD
     try dsimp only at h
     refine (show At _ _ _ [(0, v0), (3, vi o), (9, v0), (10, vi (a0.length : Int)), (11, vi M)] _ from ?_)
     refine th (rg (wY (Y.add_i z z) z (wY (ym z) z (nl ?_))))
     exact At.round (o, w64 (M + 1)) a2 (Nat.lt_succ_self _) ⟨next1 h U, z⟩ (.cons z (.cons z (.cons z (.cons z (.cons z .nil)))))
   ·refine WC.condF' z D (WC.exit (At.thenX (At.loopX ?_)))
    exact At.hitB (σ := Int) l ⟨brk1 h U, z⟩ (.cons z (.cons z .nil))
  ·rintro r _ ⟨rfl, rfl⟩
   replace h := flowK_go aC
   try dsimp only at h
   refine (show At _ _ _ [(0, v0), (3, vi r)] _ from ?_)
   refine At.inBlockHit ?_
   exact At.join (σ := Int) r ⟨some1 h, z⟩ (.cons z (.cons z .nil))
 ·rintro t _ ⟨rfl, rfl⟩
  replace h := aA
  try dsimp only at h
  refine (show At _ _ _ [(0, v0), (3, vi t)] _ from ?_)
  refine th (sq (rg (wY (ym z) z ?_)))
  obtain ⟨ar, aK, h⟩ := bnd h
  refine WL.call (vals := [sn, vi t]) kok110 z z (c_slices_Grow_api_Pair_api_Pair aK) ?_
  rintro G H ⟨_, rfl, aL, a5⟩
  obtain ⟨X, a6, Z, P⟩ := adoptE (Lg.O0 A) (fun k => if ob G = some k then 11 else 1) aL
  have aM : OwnSl 11 rep_api_Pair 65 X H G ar := RowF.adopt 11 flat_api_Pair a5 Z (fun k hk => if_pos hk)
  refine wY (ya z) z (nl (th (sq (sq (rg (wY (ym z) z ?_))))))
  have aa := C.i P z z
  refine wY (Y.len ty168 z aa) z (wY (ym z) z (nl (th (WC.block ?_))))
  obtain ⟨au, h, aN⟩ := flow1 h
  obtain ⟨av, h⟩ := loop_some h
  refine WC.joinB 2 (σ := (List api_Pair × Own × Value)) (fun x w' => au = .go x.1 ∧ Stp [11, 1001] X H x.2.1 w' ∧ OwnSl 1002 rep_api_Pair 65 x.2.1 w' x.2.2 x.1) (fun x => [(6, x.2.2)]) ?_ ?_
  ·obtain ⟨a7, ah, aO⟩ := OwnSl.rlb 1001 rfl aM
   refine WC.loop (σ := (List api_Pair × Int × Own × Value)) (fun x k w' => loopN k (slices_Concat_api_Pair_api_Pair_lp2 a0) (x.1, x.2.1) = some au ∧ Stp [11, 1001] X H x.2.2.1 w' ∧ OwnSl 1001 rep_api_Pair 65 x.2.2.1 w' x.2.2.2 x.1) (fun x => [(6, x.2.2.2), (25, v0), (26, vi (a0.length : Int)), (27, vi x.2.1)]) (ar, 0, a7, G) av (.cons z (.cons z (.cons z (.cons z .nil)))) ⟨h, (su_ ah z), aO⟩ ?_
   rintro ⟨j, ax, bp, ay⟩ av bj ⟨h, d, I⟩
   obtain ⟨a8, bq, rfl, h, ab⟩ := rnd1 h
   unfold slices_Concat_api_Pair_api_Pair_lp2 at h
   try dsimp only at h d I
   refine (show WC _ _ _ _ [(6, ay), (25, v0), (26, vi (a0.length : Int)), (27, vi ax)] _ from ?_)
   refine sq (rg (wY (Y.lss_i z z) z (nl (th (sq ?_)))))
   rcases cnd h with ⟨J, h⟩ | ⟨J, h⟩
   ·refine WC.condT' z J (sk (th (sq (WC.block (sq (rg ?_))))))
    obtain ⟨br, aP, h⟩ := bnd h
    have aQ := aa.i d z z
    obtain ⟨bs, bg, bh, bk, aR, aS, aT, K, ai, aU⟩ := Sl.at2 aQ aP
    obtain ⟨a9, rfl, aW⟩ := ai
    replace K : CellsAt _ _ _ [a9] := K
    have aj := CAt.imm K aU
    refine wY (Y.indexAddr ty168 ty25 z aR z aS aT) z (wY (yl ty25 z z aj.at_) z (wY (ya z) z (nl (th (rg (wY (ym z) z (wY (ym z) z ?_)))))))
    obtain ⟨aX, ak, h⟩ := bnd h
    refine WL.append (by decide) ty25 ty65 z (by decide) z z I (Sl.src aW) ak z ?_
    intro ba bb bl al am
    refine wY (ya z) z (nl (At.inBlock (th (rg (wY (Y.add_i z z) z (wY (ym z) z (nl ?_)))))))
    exact At.round (aX, w64 (ax + 1), bb, ba) a8 (Nat.lt_succ_self _) ⟨next1 h ab, (tr_ (su_ d z) (su_ al z)), am⟩ (.cons z (.cons z (.cons z (.cons z .nil))))
   ·refine WC.condF' z J (WC.exit (At.thenX (At.loopX ?_)))
    obtain ⟨aY, ac, an⟩ := OwnSl.rlb 1002 rfl I
    exact At.hitB (σ := (List api_Pair × Own × Value)) (j, aY, ay) ⟨brk1 h ab, (tr_ (su_ d z) (su_ ac z)), an⟩ (.cons z .nil)
  ·rintro ⟨ao, bc, az⟩ aZ ⟨rfl, Q, ad⟩
   replace h := flowK_go aN
   try dsimp only at h Q ad
   refine (show At _ _ _ [(6, az)] _ from ?_)
   refine At.inBlockHit (th (sq (rg (wY (ym z) z (wY (ya z) z (nl (th (rt ?_))))))))
   obtain rfl := some1 h
   have S : Stp [11, 1001] (Lg.O0 A) w bc aZ := (tr_ (su_ P z) (su_ Q z))
   exact At.res (.inl z) z (.tmp z .nil) ⟨az, z, (se_ S z z), (OwnSl.outF ad S low0 z)⟩
theorem c_pack_Zag {a0 : UInt64} {w : World} {r0 : Int} (h : pack_Zag a0 = some r0) : Rets Try.prog 114 [vu a0] w (fun v w' => v = vi r0 ∧ Ext w w') := by
 unfold pack_Zag at h
 refine Rets.enter Try.func114 z z ?_
 refine (show WC _ _ _ _ [(0, vu a0)] _ from ?_)
 refine sq (rg (wY (ya z) z (nl (th (sq (rg (wY (ym z) z (wY (Y.shr_uu (m := 1) z z) z (wY (Y.conv_ui ty26.u ty3.u z) z ?_)))))))))
 refine wY (ym z) z (wY (Y.and_u (b := 1) z z) z (wY (Y.conv_ui ty26.u ty3.u z) z (wY (Y.neg_i z) z (wY (Y.xor_i z z) z ?_))))
 obtain ⟨l, d, h⟩ := lt1 h
 refine WL.yE (ya z) (congrArg vi d.symm) z (nl (th (rt ?_)))
 obtain rfl := some1 h
 have j : Stp [] (Lg.O0 (fun _ => False)) w (Lg.O0 (fun _ => False)) w := (sr_ _ _ _)
 exact At.res (.inl z) z (.tmp z .nil) ⟨z, (se_ j z z)⟩
theorem c_otlp_reader_wide {v0_1 : Value} {a0 : otlp_reader} {b0 : Nat} {a1 : UInt64} {w : World} (hb0 : w.heap[b0]? = some (.cells (List.toArray [vi a0.e, v0_1]) 74 (0, 0))) {r0 : Int} {q0 : otlp_reader} (h : otlp_reader_wide a0 a1 = some (r0, q0)) : Rets Try.prog 95 [pt b0 0, vu a1] w (fun v w' => v = vi r0 ∧ Mod (fun k => k = b0) w w' ∧ w'.heap[b0]? = some (.cells (List.toArray [vi q0.e, v0_1]) 74 (0, 0))) := by
 unfold otlp_reader_wide at h
 refine Rets.enter Try.func95 z z ?_
 have E : Blk 3 (Lg.OB b0 3 (Lg.O0 (fun _ => False))) w b0 74 [vi a0.e, v0_1] := ⟨(if_pos z), hb0⟩
 refine (show WC _ _ _ _ [(0, pt b0 0), (1, vu a1)] _ from ?_)
 refine sq (rg (wY (ya z) z (nl (th (sq (rg (wY (ym z) z ?_)))))))
 obtain ⟨d, F, h⟩ := bnd h
 refine WL.call (vals := [vu a1]) kok114 z z (c_pack_Zag F) ?_
 rintro X G ⟨rfl, H⟩
 obtain ⟨P, Q, S, o⟩ := adoptE (Lg.OB b0 3 (Lg.O0 (fun _ => False))) (fun k => 1) H
 refine wY (ya z) z (nl (th (sq (rg (wY (ym z) z (wY (ym z) z (wY (Y.gtr_i z z) z (wY (ym z) z ?_))))))))
 refine WL.cut 3 (σ := Unit) (fun _ w' => G = w') (fun _ => [(5, vi d), (8, pt b0 0), (14, vB ((decide (1099511627776 < d)) || (decide (d < (-1099511627776)))))]) ?_ ?_
 ·refine WL.part 11 z (fun j => ?_) (fun j => ?_)
  ·refine WL.gS z z z z (WL.gS z z z z (wY (Y.pick (b := true) z z) z (WL.ren (v' := vB ((decide (1099511627776 < d)) || (decide (d < (-1099511627776))))) 14 z (congrArg vB (orT j)) ?_)))
   exact nl (At.join () z (.cons z (.cons z (.cons z .nil))))
  ·refine ug z z (wY (ym z) z (ug z z (wY (Y.lss_i z z) z (wY (Y.pick (b := false) z z) z (WL.ren (v' := vB ((decide (1099511627776 < d)) || (decide (d < (-1099511627776))))) 14 z (congrArg vB (orF j)) ?_)))))
   exact nl (At.join () z (.cons z (.cons z (.cons z .nil))))
 ·rintro _ _ rfl
  refine (show WL _ _ _ _ _ [(5, vi d), (8, pt b0 0), (14, vB ((decide (1099511627776 < d)) || (decide (d < (-1099511627776)))))] _ from ?_)
  have l := E.st o z
  obtain ⟨T, I, h⟩ := bnd h
  refine WL.call (vals := [pt b0 0, vB ((decide (1099511627776 < d)) || (decide (d < (-1099511627776)))), vi 4]) kok69 z z (c_otlp_reader_fail (a0 := a0) l.blk I) ?_
  rintro Z r ⟨rfl, J, U⟩
  obtain ⟨D, t, W, C⟩ := adopt P (fun k => 1) [3] J (memB l.lab rfl)
  have K : Blk 3 D r b0 74 [vi T.e, v0_1] := Blk.adopt l t U
  refine nl (th (sq (rg (wY (ym z) z (wY (ya z) z (nl (th (rt ?_))))))))
  obtain ⟨rfl, rfl⟩ := tup2 h
  have M : Stp [3] (Lg.OB b0 3 (Lg.O0 (fun _ => False))) w D r := (tr_ (su_ o z) (su_ C z))
  exact At.res (.inl z) z (.tmp z .nil) ⟨z, (Stp.modL M sB1 z z), K.blk⟩
theorem c_wire_Unpacked {A : Nat → Prop} {a0 : List UInt8} {v0 : Value} {w : World} (hs0 : Sl Rep.b w A v0 a0) {r0 : List UInt64} {r1 : Int} (h : wire_Unpacked a0 = some (r0, r1)) : Rets Try.prog 115 [v0] w (fun v w' => ∃ (u0 : Value), v = tp [u0, vi r1] ∧ Ext w w' ∧ RowF Rep.u 26 w w' u0 r0) := by
 unfold wire_Unpacked at h
 refine Rets.enter Try.func115 z z ?_
 have aa : Sl Rep.b w (imm (Lg.O0 A)) v0 a0 := (Sl.start hs0)
 refine (show WC _ _ _ _ [(0, v0)] _ from ?_)
 refine sq (rg (wY (ya z) z (wY (ya z) z (nl (th (sq (rg (wY (ya z) z (nl ?_)))))))))
 refine th (sq (sq (rg (wY (ya z) z (nl (th (WC.block ?_)))))))
 obtain ⟨T, h, F⟩ := flow1 h
 obtain ⟨U, h⟩ := loop_some h
 refine WC.joinB 0 (σ := (List UInt64 × Own × Value)) (fun x w' => T = .go x.1 ∧ Stp [1001] (Lg.O0 A) w x.2.1 w' ∧ OwnSl 1002 Rep.u 26 x.2.1 w' x.2.2 x.1) (fun x => [(4, x.2.2)]) ?_ ?_
 ·refine WC.loop (σ := (List UInt64 × Int × Own × Value)) (fun x k w' => loopN k (wire_Unpacked_lp1 a0) (x.1, x.2.1) = some T ∧ Stp [1001] (Lg.O0 A) w x.2.2.1 w' ∧ OwnSl 1001 Rep.u 26 x.2.2.1 w' x.2.2.2 x.1) (fun x => [(0, v0), (4, x.2.2.2), (5, vi x.2.1)]) ([], 0, (Lg.O0 A), sn) U (.cons z (.cons z (.cons z .nil))) ⟨h, (sr_ _ _ _), (OwnSl.nil 1001 Rep.u 26)⟩ ?_
  rintro ⟨K, G, ao, W⟩ U aA ⟨h, d, l⟩
  obtain ⟨ap, aF, rfl, h, o⟩ := rnd1 h
  unfold wire_Unpacked_lp1 at h
  try dsimp only at h d l
  refine (show WC _ _ _ _ [(0, v0), (4, W), (5, vi G)] _ from ?_)
  refine sq (sq (rg (wY (ym z) z (wY (ym z) z ?_))))
  have H := aa.i d z z
  refine wY (Y.len ty45 z H) z (wY (Y.lss_i z z) z (nl (th ?_)))
  rcases cnd h with ⟨r, h⟩ | ⟨r, h⟩
  ·refine WC.condT' z r (sk (th (WC.block (sq (rg (wY (ym z) z (wY (ym z) z ?_)))))))
   obtain ⟨⟨C, aG, aH⟩, ab, h⟩ := bnd h
   refine WL.call (vals := [v0, vi G]) kok109 z z (c_wire_GetVar (A := fun _ => True) (Sl.all H) ab) ?_
   rintro aC ac ⟨rfl, ad⟩
   obtain ⟨X, aq, ar, j⟩ := adoptE ao (fun k => 1) ad
   refine wY (ym z) z (wY (yx z z) z (wY (yx z z) z (wY (yx z z) z (wY (ya z) z (wY (ya z) z (wY (ya z) z (nl (th (sq ?_)))))))))
   refine sq (rg (wY (ym z) z (wY (Y.neq_i z z) z (nl (th ?_)))))
   rcases cnd h with ⟨t, h⟩ | ⟨t, h⟩
   ·refine WC.condT' z t (sq (rg (wY (ym z) z (wY (ya z) z (wY (ya z) z (nl (th (rt (At.thenR ?_)))))))))
    refine At.inBlockR (At.loopR ?_)
    have h := outr1 h o F
    refine At.joinBR (At.inBlockR (At.thenR ?_))
    obtain ⟨rfl, rfl⟩ := tup2 h
    have ae : Stp [1001] (Lg.O0 A) w X ac := (tr_ (su_ d z) (su_ j z))
    exact At.res (.inl z) z (.tmp z (.tmp z .nil)) ⟨sn, z, (se_ ae z z), RowF.nil⟩
   ·refine WC.condF' z t (sk (th (sq (rg (wY (ym z) z (wY (ym z) z (WL.buildSlice (O := X) (R := Rep.u) (vals := [(0, vu C)]) 11 [vu C] (xs := [C]) (by decide) ty27 ty26 (by decide) (by decide) (fe_ z) (by kernel_rfl) z ⟨[vu C], [], z, z, z⟩ z ?_)))))))
    intro aI aJ aD D af
    obtain ⟨ah, M, h⟩ := bnd h
    have aj := (l.st j z z z).st D z z z
    refine WL.append (by decide) ty27 ty26 z (by decide) z z aj af.src M z ?_
    intro au av aE P ak
    refine wY (ya z) z (nl (th (rg (wY (ym z) z (wY (ym z) z (wY (Y.add_i z z) z ?_))))))
    obtain ⟨al, Q, h⟩ := lt1 h
    refine WL.yE (ya z) (congrArg vi Q.symm) z (nl (At.inBlock ?_))
    exact At.round (ah, al, av, au) ap (Nat.lt_succ_self _) ⟨next1 h o, (tr_ (su_ d z) (tr_ (su_ j z) (tr_ (su_ D z) (su_ P z)))), ak⟩ (.cons z (.cons z (.cons z .nil)))
  ·refine WC.condF' z r (WC.exit (At.thenX (At.loopX ?_)))
   obtain ⟨ax, S, am⟩ := OwnSl.rlb 1002 rfl l
   exact At.hitB (σ := (List UInt64 × Own × Value)) (K, ax, W) ⟨brk1 h o, (tr_ (su_ d z) (su_ S z)), am⟩ (.cons z .nil)
 ·rintro ⟨az, ay, Z⟩ an ⟨rfl, E, I⟩
  replace h := flowK_go F
  try dsimp only at h E I
  refine (show At _ _ _ [(4, Z)] _ from ?_)
  refine At.inBlockHit (th (sq (rg (wY (ym z) z (wY (ya z) z (wY (ya z) z (nl (th (rt ?_)))))))))
  obtain ⟨rfl, rfl⟩ := tup2 h
  have J : Stp [1001] (Lg.O0 A) w ay an := (su_ E z)
  exact At.res (.inl z) z (.tmp z (.tmp z .nil)) ⟨Z, z, (se_ J z z), (OwnSl.outF I J low0 z)⟩
theorem c_otlp_reader_side {A : Nat → Prop} {v0_1 : Value} {a0 : otlp_reader} {b0 : Nat} {a1 : List UInt8} {v1 : Value} {w : World} (hb0 : w.heap[b0]? = some (.cells (List.toArray [vi a0.e, v0_1]) 74 (0, 0))) (hs1 : Sl Rep.b w A v1 a1) (hA : ∀ k, A k → k ≠ b0) {r0 : api_Side} {q0 : otlp_reader} (h : otlp_reader_side a0 a1 = some (r0, q0)) : Rets Try.prog 96 [pt b0 0, v1] w (fun v w' => ∃ (ae : Value), v = ag [vi r0.Offset, ae] ∧ Mod (fun k => k = b0) w w' ∧ RowF Rep.u 26 w w' ae r0.Counts ∧ w'.heap[b0]? = some (.cells (List.toArray [vi q0.e, v0_1]) 74 (0, 0))) := by
 unfold otlp_reader_side at h
 refine Rets.enter Try.func96 z z ?_
 have bh : Blk 3 (Lg.OB b0 3 (Lg.O0 A)) w b0 74 [vi a0.e, v0_1] := ⟨(if_pos z), hb0⟩
 have bi : Sl Rep.b w (imm (Lg.OB b0 3 (Lg.O0 A))) v1 a1 := (Sl.OB (Sl.start hs1) (fun k hk => (hA k (O0_A k hk))))
 refine (show WC _ _ _ _ [(0, pt b0 0), (1, v1)] _ from ?_)
 refine sq (rg (WL.alloc (O := (Lg.OB b0 3 (Lg.O0 A))) 11 [vi 0, sn] ty29 z z ?_))
 intro co bW ce M bj
 refine nl (th (sq (rg (wY (ym z) z (wY (ym z) z (WL.makeMap (O := bW) 12 z ?_))))))
 intro bX a8 cf D bk
 refine WL.insert (a := 1) (b := 0) ty77.u ty3.u z z z bk z ?_
 intro cg E U
 replace U : MBlk _ _ _ _ [(1, 0)] := U
 refine WL.insert (a := 2) (b := 2) ty77.u ty3.u z z z U z ?_
 intro ch F P
 replace P : MBlk _ _ _ _ [(1, 0), (2, 2)] := P
 refine wY (ym z) z ?_
 have Q := (((bh.st M z).st D z).st E z).st F z
 have br := (((bi.i M z z).i D z z).i E z z).i F z z
 obtain ⟨⟨bY, a9⟩, bs, h⟩ := bnd h
 refine WL.call (vals := [pt b0 0, v1, Value.map (some bX)]) kok32 z z (c_otlp_reader_open (A := out [3] a8) (a0 := a0) Q.blk (Sl.notin (L := [3]) br z z) ⟨_, z, (out_lab P.lab z), P.blk⟩ (fun k hk => out_ne Q.lab z k hk) bs) ?_
 rintro W af ⟨_, rfl, bt, bZ, b1⟩
 obtain ⟨ah, ai, aj, Z⟩ := adopt a8 (fun k => 1) [3] bt (memB Q.lab rfl)
 have ak : Sl rep_api_Fld af (frs ah) W bY := Sl.adoptF bZ (fun k hk => ⟨hk, z⟩) aj
 have bu : Blk 3 ah af b0 74 [vi a9.e, v0_1] := Blk.adopt Q ai b1
 refine wY (ya z) z (nl (th (sq (rg (wY (ym z) z (wY (ym z) z ?_))))))
 obtain ⟨ba, bw, h⟩ := bnd h
 refine WL.call (vals := [W, vi 1]) kok70 z z (c_otlp_last (A := fun _ => True) (Sl.all ak) bw) ?_
 rintro ci bx ⟨b2, rfl, bz, b3⟩
 obtain ⟨bb, b4, al, G⟩ := adoptE ah (fun k => 1) bz
 have cj : Sl Rep.b bx (frs bb) b2 ba.B := Sl.adoptF b3 (fun k hk => ⟨hk, z⟩) al
 refine wY (Y.fieldSc ty68.u z z z ty26 z z z) z ?_
 have X := bu.st G z
 obtain ⟨⟨o, bc⟩, bA, h⟩ := bnd h
 refine WL.call (vals := [pt b0 0, vu ba.V]) kok95 z z (c_otlp_reader_wide (a0 := (otlp_reader.mk a9.e a0.out)) X.blk bA) ?_
 rintro ck bB ⟨rfl, bC, b5⟩
 obtain ⟨bd, am, b6, S⟩ := adopt bb (fun k => 1) [3] bC (memB X.lab rfl)
 have bD : Blk 3 bd bB b0 74 [vi bc.e, v0_1] := Blk.adopt X am b5
 refine wY (yb (vals := [(0, vi o)]) (cells := [vi o, sn]) (fe_ z) (by kernel_rfl)) z (WL.alloc (O := bd) 13 [vi 0, sn] ty29 z z ?_)
 intro cq b7 cl H bE
 refine WL.store (v := ag [vi o, sn]) (cells' := [vi o, sn]) ty29 z z bE z (le_ z) z z ?_
 intro cm I bG
 refine nl (th (sq (rg (wY (ym z) z ?_))))
 have bK := (((ak.f G z).f S z).f H z).f I z
 obtain ⟨b8, bL, h⟩ := bnd h
 refine WL.call (vals := [W, vi 2]) kok70 z z (c_otlp_last (A := fun _ => True) (Sl.all bK) bL) ?_
 rintro cn bM ⟨bf, rfl, bO, b9⟩
 obtain ⟨bg, ca, an, J⟩ := adoptE b7 (fun k => 1) bO
 have au : Sl Rep.b bM (frs bg) bf b8.B := Sl.adoptF b9 (fun k hk => ⟨hk, z⟩) an
 refine wY (Y.fieldSc ty68.u z z z ty45 z z z) z ?_
 obtain ⟨⟨bP, ao⟩, av, h⟩ := bnd h
 refine WL.call (vals := [bf]) kok115 z z (c_wire_Unpacked (A := fun _ => True) (Sl.all au) av) ?_
 rintro cb ax ⟨ap, rfl, ay, bQ⟩
 obtain ⟨aq, bT, ac, r⟩ := adoptE bg (fun k => if ob ap = some k then 14 else 1) ay
 have az : OwnSl 14 Rep.u 26 aq ax ap bP := RowF.adopt 14 Flat.u bQ ac (fun k hk => if_pos hk)
 refine wY (ym z) z (wY (yx z z) z (wY (yx z z) z (wY (ya z) z (wY (ya z) z (nl (th (sq (rg (wY (ym z) z ?_)))))))))
 refine wY (ym z) z (wY (Y.neq_i z z) z (wY (ym z) z ?_))
 have T := (((bD.st H z).st I z).st J z).st r z
 obtain ⟨bR, aE, h⟩ := bnd h
 refine WL.call (vals := [pt b0 0, vB (!decide (ao = 0)), vi ao]) kok69 z z (c_otlp_reader_fail (a0 := (otlp_reader.mk bc.e a0.out)) T.blk aE) ?_
 rintro cc aF ⟨rfl, aG, bS⟩
 obtain ⟨ar, ad, bU, t⟩ := adopt aq (fun k => 1) [3] aG (memB T.lab rfl)
 have aH : Blk 3 ar aF b0 74 [vi bR.e, v0_1] := Blk.adopt T ad bS
 refine nl (th (sq (rg (wY (ym z) z (wY (yf fo29_1 z) z ?_)))))
 have aa := az.st t z z z
 have aI := h
 obtain ⟨d, j, l, rfl⟩ := aa.shape
 have h := aI
 have aL := ((bG.st J z).st r z).st t z
 refine WL.store (v := (vl d j l)) (cells' := [vi o, (vl d j l)]) ty27 z z aL z (le_ z) z z ?_
 intro cd C aM
 refine nl (th (sq (rg (wY (yL ty29 z z (aM.cells 0 [vi o, (vl d j l)] z) z) z ?_))))
 have aZ := (((((((((((bj.st D z).st E z).st F z).st Z z).st G z).st S z).st H z).st I z).st J z).st r z).st t z).st C z
 refine WL.store (v := ag [vi o, (vl d j l)]) (cells' := [vi o, (vl d j l)]) ty29 z z aZ z (le_ z) z z ?_
 intro a2 K a3
 refine nl (th (rt ?_))
 obtain ⟨rfl, rfl⟩ := tup2 h
 have ab : Stp [3, 11, 12, 13] (Lg.OB b0 3 (Lg.O0 A)) w ar a2 := (tr_ (su_ M z) (tr_ (su_ D z) (tr_ (su_ E z) (tr_ (su_ F z) (tr_ (su_ Z z) (tr_ (su_ G z) (tr_ (su_ S z) (tr_ (su_ H z) (tr_ (su_ I z) (tr_ (su_ J z) (tr_ (su_ r z) (tr_ (su_ t z) (tr_ (su_ C z) (su_ K z))))))))))))))
 have a5 := (aa.st C z z z).st K z z z
 have a7 := (aH.st C z).st K z
 exact At.res (.inl z) z (.cell z (a3.runAg 0 [vi o, (vl d j l)] ty29 z z z) .nil) ⟨(vl d j l), z, (Stp.modL ab sB1 z z), (OwnSl.outF a5 ab (lowB low0 z z) z), a7.blk⟩
end Go.Lg
