/- The walks of TocumTogether and of what it calls, printed by gen.py. -/
import Derived.Test.YtoiklipabcecfaaTgLgConvWTocumTogetherx1
set_option linter.unusedVariables false
namespace Go.Lg
open Go Go.Proofs
set_option maxRecDepth 100000
set_option maxHeartbeats 4000000
theorem c_law16_awake {w : World} {r0 : Bool} (h : law16_awake = some r0) : Rets Try.prog 16 [] w (fun v w' => v = vB r0 ∧ Ext w w') := by
 unfold law16_awake at h
 refine Rets.enter Try.func16 z z ?_
 refine (show WC _ _ _ _ [] _ from ?_)
 refine sq (rg (wY (ya z) z (nl (th (sq (rg (wY (yb (vals := [(0, vs [120]), (2, vi 1), (3, vi 2), (6, vi 10), (7, vi 5)]) (cells := [vs [120], Value.slice none 0 0, vi 1, vi 2, vB false, vi 0, vi 10, vi 5, vu 0, vu 0, vi 0, vu 0, vi 0, Value.slice none 0 0, vi 0, Value.slice none 0 0, vi 0]) (fe_ z) (by kernel_rfl)) z (WL.alloc (O := (Lg.O0 (fun _ => False))) 11 [vs [], Value.slice none 0 0, vi 0, vi 0, vB false, vi 0, vi 0, vi 0, vu 0, vu 0, vi 0, vu 0, vi 0, Value.slice none 0 0, vi 0, Value.slice none 0 0, vi 0] ty37 z z ?_))))))))
 intro f1 fj fO bp ei
 refine WL.store (v := Value.agg (List.toArray [vs [120], Value.slice none 0 0, vi 1, vi 2, vB false, vi 0, vi 10, vi 5, vu 0, vu 0, vi 0, vu 0, vi 0, Value.slice none 0 0, vi 0, Value.slice none 0 0, vi 0])) (cells' := [vs [120], Value.slice none 0 0, vi 1, vi 2, vB false, vi 0, vi 10, vi 5, vu 0, vu 0, vi 0, vu 0, vi 0, Value.slice none 0 0, vi 0, Value.slice none 0 0, vi 0]) ty37 z z ei z (le_ z) z z ?_
 intro fP bq aU
 refine nl (th (sq (rg (wY (yb (vals := []) (cells := [vB false, vi 0, vi 0, vi 0, vu 0, vu 0, vi 0, vu 0, vi 0, Value.slice none 0 0, vi 0, Value.slice none 0 0]) (fe_ z) (by kernel_rfl)) z (wY (yL ty37 z z (aU.cells 0 [vs [120], Value.slice none 0 0, vi 1, vi 2, vB false, vi 0, vi 10, vi 5, vu 0, vu 0, vi 0, vu 0, vi 0, Value.slice none 0 0, vi 0, Value.slice none 0 0, vi 0] z) z) z ?_)))))
 obtain ⟨⟨o, c, n⟩, ej, h⟩ := bnd h
 refine WL.call (vals := [ag [vB false, vi 0, vi 0, vi 0, vu 0, vu 0, vi 0, vu 0, vi 0, Value.slice none 0 0, vi 0, Value.slice none 0 0], Value.agg (List.toArray [vs [120], Value.slice none 0 0, vi 1, vi 2, vB false, vi 0, vi 10, vi 5, vu 0, vu 0, vi 0, vu 0, vi 0, Value.slice none 0 0, vi 0, Value.slice none 0 0, vi 0]), vi 10]) kok20 z z (c_tocum_Next (A := fun _ => True) (a0 := (api_State.mk false 0 0 0 0 0 (api_Hist.mk 0 0 (api_Side.mk 0 []) (api_Side.mk 0 [])))) (a1 := (api_Point.mk [120] [] 1 2 false 0 10 5 0 0 (api_Hist.mk 0 0 (api_Side.mk 0 []) (api_Side.mk 0 [])) 0)) (Or.inl ⟨z, z⟩) (Or.inl ⟨z, z⟩) (Or.inl ⟨z, z⟩) (Or.inl ⟨z, z⟩) (Or.inl ⟨z, z⟩) ej) ?_
 rintro fQ ak ⟨fk, fl, fm, fn, fo, rfl, ek, fp, fq, fr, fs, ft⟩
 obtain ⟨al, fu, ac, aJ⟩ := adoptE fj (fun k => 1) ek
 have em : Sl Rep.u ak (frs al) fk o.Hist.Pos.Counts := Sl.adoptF fp (fun k hk => ⟨hk, z⟩) ac
 have en : Sl Rep.u ak (frs al) fl o.Hist.Neg.Counts := Sl.adoptF fq (fun k hk => ⟨hk, z⟩) ac
 have eo : Sl rep_api_Pair ak (frs al) fm c.Attrs := Sl.adoptF fr (fun k hk => ⟨hk, z⟩) ac
 have ep : Sl Rep.u ak (frs al) fn c.Hist.Pos.Counts := Sl.adoptF fs (fun k hk => ⟨hk, z⟩) ac
 have er : Sl Rep.u ak (frs al) fo c.Hist.Neg.Counts := Sl.adoptF ft (fun k hk => ⟨hk, z⟩) ac
 refine wY (ym z) z (wY (yx z z) z (wY (yx z z) z (wY (yx z z) z (WL.alloc (O := al) 12 [vB false, vi 0, vi 0, vi 0, vu 0, vu 0, vi 0, vu 0, vi 0, Value.slice none 0 0, vi 0, Value.slice none 0 0] ty32 z z ?_))))
 intro f2 fv fR ab es
 refine WL.alloc (O := fv) 13 [vs [], Value.slice none 0 0, vi 0, vi 0, vB false, vi 0, vi 0, vi 0, vu 0, vu 0, vi 0, vu 0, vi 0, Value.slice none 0 0, vi 0, Value.slice none 0 0, vi 0] ty37 z z ?_
 intro aj fw fT U et
 have eu := em.f ab z
 have aW := eu.f U z
 have ew := h
 obtain ⟨aK, aL, aM, rfl⟩ := aW.shape
 have h := ew
 have ex := en.f ab z
 have aX := ex.f U z
 have ey := h
 obtain ⟨aN, aO, aP, rfl⟩ := aX.shape
 have h := ey
 have ez := es.st U z
 refine WL.store (v := ag [vB o.Some, vi o.Start, vi o.Time, vi o.Int_, vu o.Re, vu o.Im, vi o.Hist.Scale, vu o.Hist.Zero, vi o.Hist.Pos.Offset, (Value.slice aK aL aM), vi o.Hist.Neg.Offset, (Value.slice aN aO aP)]) (cells' := [vB o.Some, vi o.Start, vi o.Time, vi o.Int_, vu o.Re, vu o.Im, vi o.Hist.Scale, vu o.Hist.Zero, vi o.Hist.Pos.Offset, (Value.slice aK aL aM), vi o.Hist.Neg.Offset, (Value.slice aN aO aP)]) ty32 z z ez z (le_ z) z z ?_
 intro fU V eA
 have eB := eo.f ab z
 have eC := eB.f U z
 have eD := eC.f V z
 have eE := h
 obtain ⟨d9, ea, eb, rfl⟩ := eD.shape
 have h := eE
 have eF := ep.f ab z
 have eG := eF.f U z
 have eH := eG.f V z
 have eI := h
 obtain ⟨ec, ed, ee, rfl⟩ := eH.shape
 have h := eI
 have eJ := er.f ab z
 have eK := eJ.f U z
 have eL := eK.f V z
 have eM := h
 obtain ⟨ef, eg, eh, rfl⟩ := eL.shape
 have h := eM
 have eN := et.st V z
 refine WL.store (v := ag [vs c.Name, (Value.slice d9 ea eb), vi c.Kind, vi c.Temp, vB c.Mono, vi c.Start, vi c.Time, vi c.Int_, vu c.Re, vu c.Im, vi c.Hist.Scale, vu c.Hist.Zero, vi c.Hist.Pos.Offset, (Value.slice ec ed ee), vi c.Hist.Neg.Offset, (Value.slice ef eg eh), vi c.Flags]) (cells' := [vs c.Name, (Value.slice d9 ea eb), vi c.Kind, vi c.Temp, vB c.Mono, vi c.Start, vi c.Time, vi c.Int_, vu c.Re, vu c.Im, vi c.Hist.Scale, vu c.Hist.Zero, vi c.Hist.Pos.Offset, (Value.slice ec ed ee), vi c.Hist.Neg.Offset, (Value.slice ef eg eh), vi c.Flags]) ty37 z z eN z (le_ z) z z ?_
 intro fV ad aI
 refine wY (ya z) z (nl (th (sq (rg (wY (yf fo37_5 z) z ?_)))))
 have eO := aU.st aJ z
 have eP := eO.st ab z
 have eQ := eP.st U z
 have eR := eQ.st V z
 have br := eR.st ad z
 refine WL.store (v := vi 10) (cells' := [vs [120], Value.slice none 0 0, vi 1, vi 2, vB false, vi 10, vi 10, vi 5, vu 0, vu 0, vi 0, vu 0, vi 0, Value.slice none 0 0, vi 0, Value.slice none 0 0, vi 0]) ty3 z z br z (le_ z) z z ?_
 intro fx M bs
 refine nl (th (sq (rg (wY (yf fo37_6 z) z (WL.store (v := vi 20) (cells' := [vs [120], Value.slice none 0 0, vi 1, vi 2, vB false, vi 10, vi 20, vi 5, vu 0, vu 0, vi 0, vu 0, vi 0, Value.slice none 0 0, vi 0, Value.slice none 0 0, vi 0]) ty3 z z bs z (le_ z) z z ?_)))))
 intro fy P bt
 refine nl (th (sq (rg (wY (yf fo37_7 z) z (WL.store (v := vi 3) (cells' := [vs [120], Value.slice none 0 0, vi 1, vi 2, vB false, vi 10, vi 20, vi 3, vu 0, vu 0, vi 0, vu 0, vi 0, Value.slice none 0 0, vi 0, Value.slice none 0 0, vi 0]) ty3 z z bt z (le_ z) z z ?_)))))
 intro fz Q aQ
 refine nl (th (sq (rg ?_)))
 have bu := eA.st ad z
 have bw := bu.st M z
 have bx := bw.st P z
 have aR := bx.st Q z
 refine wY (yL ty32 z z (aR.cells 0 [vB o.Some, vi o.Start, vi o.Time, vi o.Int_, vu o.Re, vu o.Im, vi o.Hist.Scale, vu o.Hist.Zero, vi o.Hist.Pos.Offset, (Value.slice aK aL aM), vi o.Hist.Neg.Offset, (Value.slice aN aO aP)] z) z) z (wY (yL ty37 z z (aQ.cells 0 [vs [120], Value.slice none 0 0, vi 1, vi 2, vB false, vi 10, vi 20, vi 3, vu 0, vu 0, vi 0, vu 0, vi 0, Value.slice none 0 0, vi 0, Value.slice none 0 0, vi 0] z) z) z ?_)
 have bz := aW.f V z
 have bA := bz.f ad z
 have bB := bA.f M z
 have bC := bB.f P z
 have bD := bC.f Q z
 have bE := aX.f V z
 have bF := bE.f ad z
 have bG := bF.f M z
 have bH := bG.f P z
 have bI := bH.f Q z
 obtain ⟨⟨l, d, j⟩, bJ, h⟩ := bnd h
 refine WL.call (vals := [ag [vB o.Some, vi o.Start, vi o.Time, vi o.Int_, vu o.Re, vu o.Im, vi o.Hist.Scale, vu o.Hist.Zero, vi o.Hist.Pos.Offset, (Value.slice aK aL aM), vi o.Hist.Neg.Offset, (Value.slice aN aO aP)], Value.agg (List.toArray [vs [120], Value.slice none 0 0, vi 1, vi 2, vB false, vi 10, vi 20, vi 3, vu 0, vu 0, vi 0, vu 0, vi 0, Value.slice none 0 0, vi 0, Value.slice none 0 0, vi 0]), vi 10]) kok20 z z (c_tocum_Next (A := fun _ => True) (a0 := o) (a1 := (api_Point.mk [120] [] 1 2 false 10 20 3 0 0 (api_Hist.mk 0 0 (api_Side.mk 0 []) (api_Side.mk 0 [])) 0)) (Sl.all bD) (Sl.all bI) (Or.inl ⟨z, z⟩) (Or.inl ⟨z, z⟩) (Or.inl ⟨z, z⟩) bJ) ?_
 rintro fA ae ⟨eS, eT, eU, eV, eW, rfl, bK, eX, eY, eZ, e0, e1⟩
 obtain ⟨ah, fh, W, Z⟩ := adoptE fw (fun k => 1) bK
 have bL : Sl Rep.u ae (frs ah) eS l.Hist.Pos.Counts := Sl.adoptF eX (fun k hk => ⟨hk, z⟩) W
 have bM : Sl Rep.u ae (frs ah) eT l.Hist.Neg.Counts := Sl.adoptF eY (fun k hk => ⟨hk, z⟩) W
 have bO : Sl rep_api_Pair ae (frs ah) eU d.Attrs := Sl.adoptF eZ (fun k hk => ⟨hk, z⟩) W
 have bP : Sl Rep.u ae (frs ah) eV d.Hist.Pos.Counts := Sl.adoptF e0 (fun k hk => ⟨hk, z⟩) W
 have bQ : Sl Rep.u ae (frs ah) eW d.Hist.Neg.Counts := Sl.adoptF e1 (fun k hk => ⟨hk, z⟩) W
 refine wY (ym z) z (wY (yx z z) z (wY (yx z z) z (wY (yx z z) z (WL.alloc (O := ah) 14 [vs [], Value.slice none 0 0, vi 0, vi 0, vB false, vi 0, vi 0, vi 0, vu 0, vu 0, vi 0, vu 0, vi 0, Value.slice none 0 0, vi 0, Value.slice none 0 0, vi 0] ty37 z z ?_))))
 intro K e2 fB C bR
 have aS := bL.f C z
 have bS := h
 obtain ⟨am, an, ao, rfl⟩ := aS.shape
 have h := bS
 have aT := bM.f C z
 have bT := h
 obtain ⟨ap, aq, ar, rfl⟩ := aT.shape
 have h := bT
 have bU := aR.st Z z
 have bW := bU.st C z
 refine WL.store (v := ag [vB l.Some, vi l.Start, vi l.Time, vi l.Int_, vu l.Re, vu l.Im, vi l.Hist.Scale, vu l.Hist.Zero, vi l.Hist.Pos.Offset, (Value.slice am an ao), vi l.Hist.Neg.Offset, (Value.slice ap aq ar)]) (cells' := [vB l.Some, vi l.Start, vi l.Time, vi l.Int_, vu l.Re, vu l.Im, vi l.Hist.Scale, vu l.Hist.Zero, vi l.Hist.Pos.Offset, (Value.slice am an ao), vi l.Hist.Neg.Offset, (Value.slice ap aq ar)]) ty32 z z bW z (le_ z) z z ?_
 intro fC D bX
 have bY := bO.f C z
 have bZ := bY.f D z
 have b0 := h
 obtain ⟨aY, aZ, a2, rfl⟩ := bZ.shape
 have h := b0
 have b1 := bP.f C z
 have b2 := b1.f D z
 have b3 := h
 obtain ⟨a3, a4, a5, rfl⟩ := b2.shape
 have h := b3
 have b4 := bQ.f C z
 have b5 := b4.f D z
 have b6 := h
 obtain ⟨a6, a7, a8, rfl⟩ := b5.shape
 have h := b6
 have b7 := bR.st D z
 refine WL.store (v := ag [vs d.Name, (Value.slice aY aZ a2), vi d.Kind, vi d.Temp, vB d.Mono, vi d.Start, vi d.Time, vi d.Int_, vu d.Re, vu d.Im, vi d.Hist.Scale, vu d.Hist.Zero, vi d.Hist.Pos.Offset, (Value.slice a3 a4 a5), vi d.Hist.Neg.Offset, (Value.slice a6 a7 a8), vi d.Flags]) (cells' := [vs d.Name, (Value.slice aY aZ a2), vi d.Kind, vi d.Temp, vB d.Mono, vi d.Start, vi d.Time, vi d.Int_, vu d.Re, vu d.Im, vi d.Hist.Scale, vu d.Hist.Zero, vi d.Hist.Pos.Offset, (Value.slice a3 a4 a5), vi d.Hist.Neg.Offset, (Value.slice a6 a7 a8), vi d.Flags]) ty37 z z b7 z (le_ z) z z ?_
 intro fD L au
 refine wY (ya z) z (nl (th (sq (rg (wY (yf fo37_5 z) z ?_)))))
 have b8 := aQ.st Z z
 have b9 := b8.st C z
 have ca := b9.st D z
 have cb := ca.st L z
 refine WL.store (v := vi 25) (cells' := [vs [120], Value.slice none 0 0, vi 1, vi 2, vB false, vi 25, vi 20, vi 3, vu 0, vu 0, vi 0, vu 0, vi 0, Value.slice none 0 0, vi 0, Value.slice none 0 0, vi 0]) ty3 z z cb z (le_ z) z z ?_
 intro fF G cc
 refine nl (th (sq (rg (wY (yf fo37_6 z) z (WL.store (v := vi 30) (cells' := [vs [120], Value.slice none 0 0, vi 1, vi 2, vB false, vi 25, vi 30, vi 3, vu 0, vu 0, vi 0, vu 0, vi 0, Value.slice none 0 0, vi 0, Value.slice none 0 0, vi 0]) ty3 z z cc z (le_ z) z z ?_)))))
 intro fG H cd
 refine nl (th (sq (rg (wY (yf fo37_7 z) z (WL.store (v := vi 2) (cells' := [vs [120], Value.slice none 0 0, vi 1, vi 2, vB false, vi 25, vi 30, vi 2, vu 0, vu 0, vi 0, vu 0, vi 0, Value.slice none 0 0, vi 0, Value.slice none 0 0, vi 0]) ty3 z z cd z (le_ z) z z ?_)))))
 intro fH I ce
 refine nl (th (sq (rg ?_)))
 have cf := bX.st L z
 have cg := cf.st G z
 have ch := cg.st H z
 have ci := ch.st I z
 refine wY (yL ty32 z z (ci.cells 0 [vB l.Some, vi l.Start, vi l.Time, vi l.Int_, vu l.Re, vu l.Im, vi l.Hist.Scale, vu l.Hist.Zero, vi l.Hist.Pos.Offset, (Value.slice am an ao), vi l.Hist.Neg.Offset, (Value.slice ap aq ar)] z) z) z (wY (yL ty37 z z (ce.cells 0 [vs [120], Value.slice none 0 0, vi 1, vi 2, vB false, vi 25, vi 30, vi 2, vu 0, vu 0, vi 0, vu 0, vi 0, Value.slice none 0 0, vi 0, Value.slice none 0 0, vi 0] z) z) z ?_)
 have cj := aS.f D z
 have ck := cj.f L z
 have cl := ck.f G z
 have cm := cl.f H z
 have cn := cm.f I z
 have co := aT.f D z
 have cp := co.f L z
 have cq := cp.f G z
 have cr := cq.f H z
 have cs := cr.f I z
 obtain ⟨⟨p, e, m⟩, ct, h⟩ := bnd h
 refine WL.call (vals := [ag [vB l.Some, vi l.Start, vi l.Time, vi l.Int_, vu l.Re, vu l.Im, vi l.Hist.Scale, vu l.Hist.Zero, vi l.Hist.Pos.Offset, (Value.slice am an ao), vi l.Hist.Neg.Offset, (Value.slice ap aq ar)], Value.agg (List.toArray [vs [120], Value.slice none 0 0, vi 1, vi 2, vB false, vi 25, vi 30, vi 2, vu 0, vu 0, vi 0, vu 0, vi 0, Value.slice none 0 0, vi 0, Value.slice none 0 0, vi 0]), vi 10]) kok20 z z (c_tocum_Next (A := fun _ => True) (a0 := l) (a1 := (api_Point.mk [120] [] 1 2 false 25 30 2 0 0 (api_Hist.mk 0 0 (api_Side.mk 0 []) (api_Side.mk 0 [])) 0)) (Sl.all cn) (Sl.all cs) (Or.inl ⟨z, z⟩) (Or.inl ⟨z, z⟩) (Or.inl ⟨z, z⟩) ct) ?_
 rintro fI af ⟨e5, e6, e7, e8, e9, rfl, cu, fa, fb, fc, fd, fe⟩
 obtain ⟨ai, fi, aa, S⟩ := adoptE e2 (fun k => 1) cu
 have cv : Sl Rep.u af (frs ai) e5 p.Hist.Pos.Counts := Sl.adoptF fa (fun k hk => ⟨hk, z⟩) aa
 have cw : Sl Rep.u af (frs ai) e6 p.Hist.Neg.Counts := Sl.adoptF fb (fun k hk => ⟨hk, z⟩) aa
 have cx : Sl rep_api_Pair af (frs ai) e7 e.Attrs := Sl.adoptF fc (fun k hk => ⟨hk, z⟩) aa
 have cy : Sl Rep.u af (frs ai) e8 e.Hist.Pos.Counts := Sl.adoptF fd (fun k hk => ⟨hk, z⟩) aa
 have cz : Sl Rep.u af (frs ai) e9 e.Hist.Neg.Counts := Sl.adoptF fe (fun k hk => ⟨hk, z⟩) aa
 refine wY (ym z) z (wY (yx z z) z (wY (yx z z) z (wY (yx z z) z (WL.alloc (O := ai) 15 [vB false, vi 0, vi 0, vi 0, vu 0, vu 0, vi 0, vu 0, vi 0, Value.slice none 0 0, vi 0, Value.slice none 0 0] ty32 z z ?_))))
 intro fY ff fJ t cA
 refine WL.alloc (O := ff) 16 [vs [], Value.slice none 0 0, vi 0, vi 0, vB false, vi 0, vi 0, vi 0, vu 0, vu 0, vi 0, vu 0, vi 0, Value.slice none 0 0, vi 0, Value.slice none 0 0, vi 0] ty37 z z ?_
 intro q fg fK r cC
 have cD := cv.f t z
 have cE := cD.f r z
 have cF := h
 obtain ⟨a9, ba, bb, rfl⟩ := cE.shape
 have h := cF
 have cG := cw.f t z
 have cH := cG.f r z
 have cI := h
 obtain ⟨bc, bd, bf, rfl⟩ := cH.shape
 have h := cI
 have cJ := cA.st r z
 refine WL.store (v := ag [vB p.Some, vi p.Start, vi p.Time, vi p.Int_, vu p.Re, vu p.Im, vi p.Hist.Scale, vu p.Hist.Zero, vi p.Hist.Pos.Offset, (Value.slice a9 ba bb), vi p.Hist.Neg.Offset, (Value.slice bc bd bf)]) (cells' := [vB p.Some, vi p.Start, vi p.Time, vi p.Int_, vu p.Re, vu p.Im, vi p.Hist.Scale, vu p.Hist.Zero, vi p.Hist.Pos.Offset, (Value.slice a9 ba bb), vi p.Hist.Neg.Offset, (Value.slice bc bd bf)]) ty32 z z cJ z (le_ z) z z ?_
 intro fL F fN
 have cK := cx.f t z
 have cL := cK.f r z
 have cM := cL.f F z
 have cN := h
 obtain ⟨bg, bh, bi, rfl⟩ := cM.shape
 have h := cN
 have cO := cy.f t z
 have cP := cO.f r z
 have cQ := cP.f F z
 have cR := h
 obtain ⟨bj, bk, bl, rfl⟩ := cQ.shape
 have h := cR
 have cS := cz.f t z
 have cT := cS.f r z
 have cU := cT.f F z
 have cV := h
 obtain ⟨bm, bn, bo, rfl⟩ := cU.shape
 have h := cV
 have cW := cC.st F z
 refine WL.store (v := ag [vs e.Name, (Value.slice bg bh bi), vi e.Kind, vi e.Temp, vB e.Mono, vi e.Start, vi e.Time, vi e.Int_, vu e.Re, vu e.Im, vi e.Hist.Scale, vu e.Hist.Zero, vi e.Hist.Pos.Offset, (Value.slice bj bk bl), vi e.Hist.Neg.Offset, (Value.slice bm bn bo), vi e.Flags]) (cells' := [vs e.Name, (Value.slice bg bh bi), vi e.Kind, vi e.Temp, vB e.Mono, vi e.Start, vi e.Time, vi e.Int_, vu e.Re, vu e.Im, vi e.Hist.Scale, vu e.Hist.Zero, vi e.Hist.Pos.Offset, (Value.slice bj bk bl), vi e.Hist.Neg.Offset, (Value.slice bm bn bo), vi e.Flags]) ty37 z z cW z (le_ z) z z ?_
 intro J T av
 refine wY (ya z) z (nl (th (sq (rg (wY (ym z) z (wY (Y.eql_i z z) z (wY (ym z) z ?_)))))))
 refine WL.cut 3 (σ := Unit) (fun _ w' => J = w') (fun _ => [(3, pt aj 0), (5, pt K 0), (8, pt q 0), (9, vi m), (43, vB ((decide (n = 0)) && (decide (j = 0))))]) ?_ ?_
 ·refine WL.part 40 z (fun aw => ?_) (fun aw => ?_)
  ·refine ug z z (wY (ym z) z (ug z z (wY (Y.eql_i z z) z (wY (Y.pick (b := true) z z) z (WL.ren (v' := vB ((decide (n = 0)) && (decide (j = 0)))) 43 z (congrArg vB (andT aw)) ?_)))))
   exact nl (At.join () z (.cons z (.cons z (.cons z (.cons z (.cons z .nil))))))
  ·refine WL.gS z z z z (WL.gS z z z z (wY (Y.pick (b := false) z z) z (WL.ren (v' := vB ((decide (n = 0)) && (decide (j = 0)))) 43 z (congrArg vB (andF aw)) ?_)))
   exact nl (At.join () z (.cons z (.cons z (.cons z (.cons z (.cons z .nil))))))
 ·rintro _ _ rfl
  refine (show WL _ _ _ _ _ [(3, pt aj 0), (5, pt K 0), (8, pt q 0), (9, vi m), (43, vB ((decide (n = 0)) && (decide (j = 0))))] _ from ?_)
  refine wY (ym z) z ?_
  refine WL.cut 3 (σ := Unit) (fun _ w' => J = w') (fun _ => [(3, pt aj 0), (5, pt K 0), (8, pt q 0), (47, vB (((decide (n = 0)) && (decide (j = 0))) && (decide (m = 0))))]) ?_ ?_
  ·refine WL.part 44 z (fun ax => ?_) (fun ax => ?_)
   ·refine ug z z (wY (ym z) z (ug z z (wY (Y.eql_i z z) z (wY (Y.pick (b := true) z z) z (WL.ren (v' := vB (((decide (n = 0)) && (decide (j = 0))) && (decide (m = 0)))) 47 z (congrArg vB (andT ax)) ?_)))))
    exact nl (At.join () z (.cons z (.cons z (.cons z (.cons z .nil)))))
   ·refine WL.gS z z z z (WL.gS z z z z (wY (Y.pick (b := false) z z) z (WL.ren (v' := vB (((decide (n = 0)) && (decide (j = 0))) && (decide (m = 0)))) 47 z (congrArg vB (andF ax)) ?_)))
    exact nl (At.join () z (.cons z (.cons z (.cons z (.cons z .nil)))))
  ·rintro _ _ rfl
   refine (show WL _ _ _ _ _ [(3, pt aj 0), (5, pt K 0), (8, pt q 0), (47, vB (((decide (n = 0)) && (decide (j = 0))) && (decide (m = 0))))] _ from ?_)
   refine wY (ym z) z ?_
   refine WL.cut 4 (σ := Unit) (fun _ w' => J = w') (fun _ => [(3, pt aj 0), (5, pt K 0), (8, pt q 0), (52, vB ((((decide (n = 0)) && (decide (j = 0))) && (decide (m = 0))) && (decide (c.Flags = 1))))]) ?_ ?_
   ·refine WL.part 48 z (fun ay => ?_) (fun ay => ?_)
    ·refine ug z z (wY (yf fo37_11 z) z (ug z z ?_))
     have cX := aI.st M z
     have cY := cX.st P z
     have cZ := cY.st Q z
     have c0 := cZ.st Z z
     have c1 := c0.st C z
     have c2 := c1.st D z
     have c3 := c2.st L z
     have c4 := c3.st G z
     have c5 := c4.st H z
     have c6 := c5.st I z
     have c7 := c6.st S z
     have c8 := c7.st t z
     have c9 := c8.st r z
     have da := c9.st F z
     have db := da.st T z
     refine wY (yl ty3 z z (db.cell 16 _ z)) z (ug z z (wY (Y.eql_i z z) z (wY (Y.pick (b := true) z z) z (WL.ren (v' := vB ((((decide (n = 0)) && (decide (j = 0))) && (decide (m = 0))) && (decide (c.Flags = 1)))) 52 z (congrArg vB (andT ay)) ?_))))
     exact nl (At.join () z (.cons z (.cons z (.cons z (.cons z .nil)))))
    ·refine WL.gS z z z z (WL.gS z z z z (WL.gS z z z z (wY (Y.pick (b := false) z z) z (WL.ren (v' := vB ((((decide (n = 0)) && (decide (j = 0))) && (decide (m = 0))) && (decide (c.Flags = 1)))) 52 z (congrArg vB (andF ay)) ?_))))
     exact nl (At.join () z (.cons z (.cons z (.cons z (.cons z .nil)))))
   ·rintro _ _ rfl
    refine (show WL _ _ _ _ _ [(3, pt aj 0), (5, pt K 0), (8, pt q 0), (52, vB ((((decide (n = 0)) && (decide (j = 0))) && (decide (m = 0))) && (decide (c.Flags = 1))))] _ from ?_)
    refine wY (ym z) z ?_
    refine WL.cut 4 (σ := Unit) (fun _ w' => J = w') (fun _ => [(3, pt aj 0), (5, pt K 0), (8, pt q 0), (57, vB (((((decide (n = 0)) && (decide (j = 0))) && (decide (m = 0))) && (decide (c.Flags = 1))) && (decide (c.Int_ = 5))))]) ?_ ?_
    ·refine WL.part 53 z (fun az => ?_) (fun az => ?_)
     ·refine ug z z (wY (yf fo37_7 z) z (ug z z ?_))
      have dc := aI.st M z
      have dd := dc.st P z
      have de := dd.st Q z
      have df := de.st Z z
      have dg := df.st C z
      have dh := dg.st D z
      have di := dh.st L z
      have dj := di.st G z
      have dk := dj.st H z
      have dl := dk.st I z
      have dm := dl.st S z
      have dn := dm.st t z
      have dp := dn.st r z
      have dr := dp.st F z
      have ds := dr.st T z
      refine wY (yl ty3 z z (ds.cell 7 _ z)) z (ug z z (wY (Y.eql_i z z) z (wY (Y.pick (b := true) z z) z (WL.ren (v' := vB (((((decide (n = 0)) && (decide (j = 0))) && (decide (m = 0))) && (decide (c.Flags = 1))) && (decide (c.Int_ = 5)))) 57 z (congrArg vB (andT az)) ?_))))
      exact nl (At.join () z (.cons z (.cons z (.cons z (.cons z .nil)))))
     ·refine WL.gS z z z z (WL.gS z z z z (WL.gS z z z z (wY (Y.pick (b := false) z z) z (WL.ren (v' := vB (((((decide (n = 0)) && (decide (j = 0))) && (decide (m = 0))) && (decide (c.Flags = 1))) && (decide (c.Int_ = 5)))) 57 z (congrArg vB (andF az)) ?_))))
      exact nl (At.join () z (.cons z (.cons z (.cons z (.cons z .nil)))))
    ·rintro _ _ rfl
     refine (show WL _ _ _ _ _ [(3, pt aj 0), (5, pt K 0), (8, pt q 0), (57, vB (((((decide (n = 0)) && (decide (j = 0))) && (decide (m = 0))) && (decide (c.Flags = 1))) && (decide (c.Int_ = 5))))] _ from ?_)
     refine wY (ym z) z ?_
     refine WL.cut 4 (σ := Unit) (fun _ w' => J = w') (fun _ => [(5, pt K 0), (8, pt q 0), (62, vB ((((((decide (n = 0)) && (decide (j = 0))) && (decide (m = 0))) && (decide (c.Flags = 1))) && (decide (c.Int_ = 5))) && (decide (c.Temp = 1))))]) ?_ ?_
     ·refine WL.part 58 z (fun aA => ?_) (fun aA => ?_)
      ·refine ug z z (wY (yf fo37_3 z) z (ug z z ?_))
       have dt := aI.st M z
       have du := dt.st P z
       have dw := du.st Q z
       have dx := dw.st Z z
       have dy := dx.st C z
       have dz := dy.st D z
       have dA := dz.st L z
       have dB := dA.st G z
       have dC := dB.st H z
       have dD := dC.st I z
       have dE := dD.st S z
       have dF := dE.st t z
       have dG := dF.st r z
       have dH := dG.st F z
       have dI := dH.st T z
       refine wY (yl ty3 z z (dI.cell 3 _ z)) z (ug z z (wY (Y.eql_i z z) z (wY (Y.pick (b := true) z z) z (WL.ren (v' := vB ((((((decide (n = 0)) && (decide (j = 0))) && (decide (m = 0))) && (decide (c.Flags = 1))) && (decide (c.Int_ = 5))) && (decide (c.Temp = 1)))) 62 z (congrArg vB (andT aA)) ?_))))
       exact nl (At.join () z (.cons z (.cons z (.cons z .nil))))
      ·refine WL.gS z z z z (WL.gS z z z z (WL.gS z z z z (wY (Y.pick (b := false) z z) z (WL.ren (v' := vB ((((((decide (n = 0)) && (decide (j = 0))) && (decide (m = 0))) && (decide (c.Flags = 1))) && (decide (c.Int_ = 5))) && (decide (c.Temp = 1)))) 62 z (congrArg vB (andF aA)) ?_))))
       exact nl (At.join () z (.cons z (.cons z (.cons z .nil))))
     ·rintro _ _ rfl
      refine (show WL _ _ _ _ _ [(5, pt K 0), (8, pt q 0), (62, vB ((((((decide (n = 0)) && (decide (j = 0))) && (decide (m = 0))) && (decide (c.Flags = 1))) && (decide (c.Int_ = 5))) && (decide (c.Temp = 1))))] _ from ?_)
      refine wY (ym z) z ?_
      refine WL.cut 4 (σ := Unit) (fun _ w' => J = w') (fun _ => [(5, pt K 0), (8, pt q 0), (67, vB (((((((decide (n = 0)) && (decide (j = 0))) && (decide (m = 0))) && (decide (c.Flags = 1))) && (decide (c.Int_ = 5))) && (decide (c.Temp = 1))) && (decide (d.Flags = 0))))]) ?_ ?_
      ·refine WL.part 63 z (fun aC => ?_) (fun aC => ?_)
       ·refine ug z z (wY (yf fo37_11 z) z (ug z z ?_))
        have dJ := au.st G z
        have dK := dJ.st H z
        have dL := dK.st I z
        have dM := dL.st S z
        have dN := dM.st t z
        have dO := dN.st r z
        have dP := dO.st F z
        have dQ := dP.st T z
        refine wY (yl ty3 z z (dQ.cell 16 _ z)) z (ug z z (wY (Y.eql_i z z) z (wY (Y.pick (b := true) z z) z (WL.ren (v' := vB (((((((decide (n = 0)) && (decide (j = 0))) && (decide (m = 0))) && (decide (c.Flags = 1))) && (decide (c.Int_ = 5))) && (decide (c.Temp = 1))) && (decide (d.Flags = 0)))) 67 z (congrArg vB (andT aC)) ?_))))
        exact nl (At.join () z (.cons z (.cons z (.cons z .nil))))
       ·refine WL.gS z z z z (WL.gS z z z z (WL.gS z z z z (wY (Y.pick (b := false) z z) z (WL.ren (v' := vB (((((((decide (n = 0)) && (decide (j = 0))) && (decide (m = 0))) && (decide (c.Flags = 1))) && (decide (c.Int_ = 5))) && (decide (c.Temp = 1))) && (decide (d.Flags = 0)))) 67 z (congrArg vB (andF aC)) ?_))))
        exact nl (At.join () z (.cons z (.cons z (.cons z .nil))))
      ·rintro _ _ rfl
       refine (show WL _ _ _ _ _ [(5, pt K 0), (8, pt q 0), (67, vB (((((((decide (n = 0)) && (decide (j = 0))) && (decide (m = 0))) && (decide (c.Flags = 1))) && (decide (c.Int_ = 5))) && (decide (c.Temp = 1))) && (decide (d.Flags = 0))))] _ from ?_)
       refine wY (ym z) z ?_
       refine WL.cut 4 (σ := Unit) (fun _ w' => J = w') (fun _ => [(5, pt K 0), (8, pt q 0), (72, vB ((((((((decide (n = 0)) && (decide (j = 0))) && (decide (m = 0))) && (decide (c.Flags = 1))) && (decide (c.Int_ = 5))) && (decide (c.Temp = 1))) && (decide (d.Flags = 0))) && (decide (d.Int_ = 8))))]) ?_ ?_
       ·refine WL.part 68 z (fun aD => ?_) (fun aD => ?_)
        ·refine ug z z (wY (yf fo37_7 z) z (ug z z ?_))
         have dR := au.st G z
         have dS := dR.st H z
         have dT := dS.st I z
         have dU := dT.st S z
         have dV := dU.st t z
         have dW := dV.st r z
         have dX := dW.st F z
         have dY := dX.st T z
         refine wY (yl ty3 z z (dY.cell 7 _ z)) z (ug z z (wY (Y.eql_i z z) z (wY (Y.pick (b := true) z z) z (WL.ren (v' := vB ((((((((decide (n = 0)) && (decide (j = 0))) && (decide (m = 0))) && (decide (c.Flags = 1))) && (decide (c.Int_ = 5))) && (decide (c.Temp = 1))) && (decide (d.Flags = 0))) && (decide (d.Int_ = 8)))) 72 z (congrArg vB (andT aD)) ?_))))
         exact nl (At.join () z (.cons z (.cons z (.cons z .nil))))
        ·refine WL.gS z z z z (WL.gS z z z z (WL.gS z z z z (wY (Y.pick (b := false) z z) z (WL.ren (v' := vB ((((((((decide (n = 0)) && (decide (j = 0))) && (decide (m = 0))) && (decide (c.Flags = 1))) && (decide (c.Int_ = 5))) && (decide (c.Temp = 1))) && (decide (d.Flags = 0))) && (decide (d.Int_ = 8)))) 72 z (congrArg vB (andF aD)) ?_))))
         exact nl (At.join () z (.cons z (.cons z (.cons z .nil))))
       ·rintro _ _ rfl
        refine (show WL _ _ _ _ _ [(5, pt K 0), (8, pt q 0), (72, vB ((((((((decide (n = 0)) && (decide (j = 0))) && (decide (m = 0))) && (decide (c.Flags = 1))) && (decide (c.Int_ = 5))) && (decide (c.Temp = 1))) && (decide (d.Flags = 0))) && (decide (d.Int_ = 8))))] _ from ?_)
        refine wY (ym z) z ?_
        refine WL.cut 4 (σ := Unit) (fun _ w' => J = w') (fun _ => [(8, pt q 0), (77, vB (((((((((decide (n = 0)) && (decide (j = 0))) && (decide (m = 0))) && (decide (c.Flags = 1))) && (decide (c.Int_ = 5))) && (decide (c.Temp = 1))) && (decide (d.Flags = 0))) && (decide (d.Int_ = 8))) && (decide (d.Start = 0))))]) ?_ ?_
        ·refine WL.part 73 z (fun aE => ?_) (fun aE => ?_)
         ·refine ug z z (wY (yf fo37_5 z) z (ug z z ?_))
          have dZ := au.st G z
          have d0 := dZ.st H z
          have d1 := d0.st I z
          have d2 := d1.st S z
          have d3 := d2.st t z
          have d4 := d3.st r z
          have d5 := d4.st F z
          have d6 := d5.st T z
          refine wY (yl ty3 z z (d6.cell 5 _ z)) z (ug z z (wY (Y.eql_i z z) z (wY (Y.pick (b := true) z z) z (WL.ren (v' := vB (((((((((decide (n = 0)) && (decide (j = 0))) && (decide (m = 0))) && (decide (c.Flags = 1))) && (decide (c.Int_ = 5))) && (decide (c.Temp = 1))) && (decide (d.Flags = 0))) && (decide (d.Int_ = 8))) && (decide (d.Start = 0)))) 77 z (congrArg vB (andT aE)) ?_))))
          exact nl (At.join () z (.cons z (.cons z .nil)))
         ·refine WL.gS z z z z (WL.gS z z z z (WL.gS z z z z (wY (Y.pick (b := false) z z) z (WL.ren (v' := vB (((((((((decide (n = 0)) && (decide (j = 0))) && (decide (m = 0))) && (decide (c.Flags = 1))) && (decide (c.Int_ = 5))) && (decide (c.Temp = 1))) && (decide (d.Flags = 0))) && (decide (d.Int_ = 8))) && (decide (d.Start = 0)))) 77 z (congrArg vB (andF aE)) ?_))))
          exact nl (At.join () z (.cons z (.cons z .nil)))
        ·rintro _ _ rfl
         refine (show WL _ _ _ _ _ [(8, pt q 0), (77, vB (((((((((decide (n = 0)) && (decide (j = 0))) && (decide (m = 0))) && (decide (c.Flags = 1))) && (decide (c.Int_ = 5))) && (decide (c.Temp = 1))) && (decide (d.Flags = 0))) && (decide (d.Int_ = 8))) && (decide (d.Start = 0))))] _ from ?_)
         refine wY (ym z) z ?_
         refine WL.cut 4 (σ := Unit) (fun _ w' => J = w') (fun _ => [(8, pt q 0), (82, vB ((((((((((decide (n = 0)) && (decide (j = 0))) && (decide (m = 0))) && (decide (c.Flags = 1))) && (decide (c.Int_ = 5))) && (decide (c.Temp = 1))) && (decide (d.Flags = 0))) && (decide (d.Int_ = 8))) && (decide (d.Start = 0))) && (decide (e.Flags = 8))))]) ?_ ?_
         ·refine WL.part 78 z (fun aF => ?_) (fun aF => ?_)
          ·refine ug z z (wY (yf fo37_11 z) z (ug z z (wY (yl ty3 z z (av.cell 16 _ z)) z (ug z z (wY (Y.eql_i z z) z (wY (Y.pick (b := true) z z) z (WL.ren (v' := vB ((((((((((decide (n = 0)) && (decide (j = 0))) && (decide (m = 0))) && (decide (c.Flags = 1))) && (decide (c.Int_ = 5))) && (decide (c.Temp = 1))) && (decide (d.Flags = 0))) && (decide (d.Int_ = 8))) && (decide (d.Start = 0))) && (decide (e.Flags = 8)))) 82 z (congrArg vB (andT aF)) ?_)))))))
           exact nl (At.join () z (.cons z (.cons z .nil)))
          ·refine WL.gS z z z z (WL.gS z z z z (WL.gS z z z z (wY (Y.pick (b := false) z z) z (WL.ren (v' := vB ((((((((((decide (n = 0)) && (decide (j = 0))) && (decide (m = 0))) && (decide (c.Flags = 1))) && (decide (c.Int_ = 5))) && (decide (c.Temp = 1))) && (decide (d.Flags = 0))) && (decide (d.Int_ = 8))) && (decide (d.Start = 0))) && (decide (e.Flags = 8)))) 82 z (congrArg vB (andF aF)) ?_))))
           exact nl (At.join () z (.cons z (.cons z .nil)))
         ·rintro _ _ rfl
          refine (show WL _ _ _ _ _ [(8, pt q 0), (82, vB ((((((((((decide (n = 0)) && (decide (j = 0))) && (decide (m = 0))) && (decide (c.Flags = 1))) && (decide (c.Int_ = 5))) && (decide (c.Temp = 1))) && (decide (d.Flags = 0))) && (decide (d.Int_ = 8))) && (decide (d.Start = 0))) && (decide (e.Flags = 8))))] _ from ?_)
          refine wY (ym z) z ?_
          refine WL.cut 4 (σ := Unit) (fun _ w' => J = w') (fun _ => [(8, pt q 0), (87, vB (((((((((((decide (n = 0)) && (decide (j = 0))) && (decide (m = 0))) && (decide (c.Flags = 1))) && (decide (c.Int_ = 5))) && (decide (c.Temp = 1))) && (decide (d.Flags = 0))) && (decide (d.Int_ = 8))) && (decide (d.Start = 0))) && (decide (e.Flags = 8))) && (decide (e.Int_ = 2))))]) ?_ ?_
          ·refine WL.part 83 z (fun aG => ?_) (fun aG => ?_)
           ·refine ug z z (wY (yf fo37_7 z) z (ug z z (wY (yl ty3 z z (av.cell 7 _ z)) z (ug z z (wY (Y.eql_i z z) z (wY (Y.pick (b := true) z z) z (WL.ren (v' := vB (((((((((((decide (n = 0)) && (decide (j = 0))) && (decide (m = 0))) && (decide (c.Flags = 1))) && (decide (c.Int_ = 5))) && (decide (c.Temp = 1))) && (decide (d.Flags = 0))) && (decide (d.Int_ = 8))) && (decide (d.Start = 0))) && (decide (e.Flags = 8))) && (decide (e.Int_ = 2)))) 87 z (congrArg vB (andT aG)) ?_)))))))
            exact nl (At.join () z (.cons z (.cons z .nil)))
           ·refine WL.gS z z z z (WL.gS z z z z (WL.gS z z z z (wY (Y.pick (b := false) z z) z (WL.ren (v' := vB (((((((((((decide (n = 0)) && (decide (j = 0))) && (decide (m = 0))) && (decide (c.Flags = 1))) && (decide (c.Int_ = 5))) && (decide (c.Temp = 1))) && (decide (d.Flags = 0))) && (decide (d.Int_ = 8))) && (decide (d.Start = 0))) && (decide (e.Flags = 8))) && (decide (e.Int_ = 2)))) 87 z (congrArg vB (andF aG)) ?_))))
            exact nl (At.join () z (.cons z (.cons z .nil)))
          ·rintro _ _ rfl
           refine (show WL _ _ _ _ _ [(8, pt q 0), (87, vB (((((((((((decide (n = 0)) && (decide (j = 0))) && (decide (m = 0))) && (decide (c.Flags = 1))) && (decide (c.Int_ = 5))) && (decide (c.Temp = 1))) && (decide (d.Flags = 0))) && (decide (d.Int_ = 8))) && (decide (d.Start = 0))) && (decide (e.Flags = 8))) && (decide (e.Int_ = 2))))] _ from ?_)
           refine wY (ym z) z ?_
           refine WL.cut 4 (σ := Unit) (fun _ w' => J = w') (fun _ => [(92, vB ((((((((((((decide (n = 0)) && (decide (j = 0))) && (decide (m = 0))) && (decide (c.Flags = 1))) && (decide (c.Int_ = 5))) && (decide (c.Temp = 1))) && (decide (d.Flags = 0))) && (decide (d.Int_ = 8))) && (decide (d.Start = 0))) && (decide (e.Flags = 8))) && (decide (e.Int_ = 2))) && (decide (e.Start = 25))))]) ?_ ?_
           ·refine WL.part 88 z (fun aH => ?_) (fun aH => ?_)
            ·refine ug z z (wY (yf fo37_5 z) z (ug z z (wY (yl ty3 z z (av.cell 5 _ z)) z (ug z z (wY (Y.eql_i z z) z (wY (Y.pick (b := true) z z) z (WL.ren (v' := vB ((((((((((((decide (n = 0)) && (decide (j = 0))) && (decide (m = 0))) && (decide (c.Flags = 1))) && (decide (c.Int_ = 5))) && (decide (c.Temp = 1))) && (decide (d.Flags = 0))) && (decide (d.Int_ = 8))) && (decide (d.Start = 0))) && (decide (e.Flags = 8))) && (decide (e.Int_ = 2))) && (decide (e.Start = 25)))) 92 z (congrArg vB (andT aH)) ?_)))))))
             exact nl (At.join () z (.cons z .nil))
            ·refine WL.gS z z z z (WL.gS z z z z (WL.gS z z z z (wY (Y.pick (b := false) z z) z (WL.ren (v' := vB ((((((((((((decide (n = 0)) && (decide (j = 0))) && (decide (m = 0))) && (decide (c.Flags = 1))) && (decide (c.Int_ = 5))) && (decide (c.Temp = 1))) && (decide (d.Flags = 0))) && (decide (d.Int_ = 8))) && (decide (d.Start = 0))) && (decide (e.Flags = 8))) && (decide (e.Int_ = 2))) && (decide (e.Start = 25)))) 92 z (congrArg vB (andF aH)) ?_))))
             exact nl (At.join () z (.cons z .nil))
           ·rintro _ _ rfl
            refine (show WL _ _ _ _ _ [(92, vB ((((((((((((decide (n = 0)) && (decide (j = 0))) && (decide (m = 0))) && (decide (c.Flags = 1))) && (decide (c.Int_ = 5))) && (decide (c.Temp = 1))) && (decide (d.Flags = 0))) && (decide (d.Int_ = 8))) && (decide (d.Start = 0))) && (decide (e.Flags = 8))) && (decide (e.Int_ = 2))) && (decide (e.Start = 25))))] _ from ?_)
            obtain ⟨f0, d7, h⟩ := lt1 h
            refine WL.yE (ya z) (congrArg vB d7.symm) z (nl (th (rt ?_)))
            obtain rfl := some1 h
            have d8 : Stp [11, 12, 13, 14, 15, 16] (Lg.O0 (fun _ => False)) w fg J := (tr_ (su_ bp z) (tr_ (su_ bq z) (tr_ (su_ aJ z) (tr_ (su_ ab z) (tr_ (su_ U z) (tr_ (su_ V z) (tr_ (su_ ad z) (tr_ (su_ M z) (tr_ (su_ P z) (tr_ (su_ Q z) (tr_ (su_ Z z) (tr_ (su_ C z) (tr_ (su_ D z) (tr_ (su_ L z) (tr_ (su_ G z) (tr_ (su_ H z) (tr_ (su_ I z) (tr_ (su_ S z) (tr_ (su_ t z) (tr_ (su_ r z) (tr_ (su_ F z) (su_ T z))))))))))))))))))))))
            exact At.res (.inl z) z (.tmp z .nil) ⟨z, (se_ d8 z z)⟩
theorem c_ref08_Light {A : Nat → Prop} {v0_3 : Value} {v0_5 : Value} {a0 : api_Hist} {w : World} (hs0_3 : Sl Rep.u w A v0_3 a0.Pos.Counts) (hs0_5 : Sl Rep.u w A v0_5 a0.Neg.Counts) {r0 : Bool} (h : ref08_Light a0 = some r0) : Rets Try.prog 18 [ag [vi a0.Scale, vu a0.Zero, vi a0.Pos.Offset, v0_3, vi a0.Neg.Offset, v0_5]] w (fun v w' => v = vB r0 ∧ Ext w w') := by
 unfold ref08_Light at h
 refine Rets.enter Try.func18 z z ?_
 have e : Sl Rep.u w (imm (Lg.O0 A)) v0_3 a0.Pos.Counts := (Sl.start hs0_3)
 have j : Sl Rep.u w (imm (Lg.O0 A)) v0_5 a0.Neg.Counts := (Sl.start hs0_5)
 refine (show WC _ _ _ _ [(0, ag [vi a0.Scale, vu a0.Zero, vi a0.Pos.Offset, v0_3, vi a0.Neg.Offset, v0_5])] _ from ?_)
 refine sq (rg ?_)
 have n := h
 obtain ⟨C, D, F, rfl⟩ := e.shape
 have h := n
 have o := h
 obtain ⟨G, H, I, rfl⟩ := j.shape
 have h := o
 refine WL.box (O := (Lg.O0 A)) 11 [vi a0.Scale, vu a0.Zero, vi a0.Pos.Offset, (Value.slice C D F), vi a0.Neg.Offset, (Value.slice G H I)] z z z ?_
 intro K J l c m
 refine wY (ya z) z (nl (th (sq (rg (wY (yf fo30_2 z) z (wY (yf fo28_1 z) z (wY (yl ty26 z z (m.cell 3 _ z)) z ?_)))))))
 have p := e.i c z z
 refine wY (Y.len ty26 z p) z (wY (Y.leq_i z z) z (wY (ym z) z ?_))
 refine WL.cut 6 (σ := Unit) (fun _ w' => l = w') (fun _ => [(14, vB ((decide ((a0.Pos.Counts.length : Int) ≤ 300)) && (decide ((a0.Neg.Counts.length : Int) ≤ 300))))]) ?_ ?_
 ·refine WL.part 8 z (fun d => ?_) (fun d => ?_)
  ·refine ug z z (wY (yf fo30_3 z) z (ug z z (wY (yf fo28_1 z) z (ug z z (wY (yl ty26 z z (m.cell 5 _ z)) z (ug z z ?_))))))
   have q := j.i c z z
   refine wY (Y.len ty26 z q) z (ug z z (wY (Y.leq_i z z) z (wY (Y.pick (b := true) z z) z (WL.ren (v' := vB ((decide ((a0.Pos.Counts.length : Int) ≤ 300)) && (decide ((a0.Neg.Counts.length : Int) ≤ 300)))) 14 z (congrArg vB (andT d)) ?_))))
   exact nl (At.join () z (.cons z .nil))
  ·refine WL.gS z z z z (WL.gS z z z z (WL.gS z z z z (WL.gS z z z z (WL.gS z z z z (wY (Y.pick (b := false) z z) z (WL.ren (v' := vB ((decide ((a0.Pos.Counts.length : Int) ≤ 300)) && (decide ((a0.Neg.Counts.length : Int) ≤ 300)))) 14 z (congrArg vB (andF d)) ?_))))))
   exact nl (At.join () z (.cons z .nil))
 ·rintro _ _ rfl
  refine (show WL _ _ _ _ _ [(14, vB ((decide ((a0.Pos.Counts.length : Int) ≤ 300)) && (decide ((a0.Neg.Counts.length : Int) ≤ 300))))] _ from ?_)
  obtain ⟨L, r, h⟩ := lt1 h
  refine WL.yE (ya z) (congrArg vB r.symm) z (nl (th (rt ?_)))
  obtain rfl := some1 h
  have t : Stp [] (Lg.O0 A) w J l := (su_ c z)
  exact At.res (.inl z) z (.tmp z .nil) ⟨z, (se_ t z z)⟩
theorem c_ref08_sum {A : Nat → Prop} {a0 : UInt64} {a1 : List UInt64} {v1 : Value} {w : World} (hs1 : Sl Rep.u w A v1 a1) {r0 : UInt64} {r1 : Bool} (h : ref08_sum a0 a1 = some (r0, r1)) : Rets Try.prog 107 [vu a0, v1] w (fun v w' => v = tp [vu r0, vB r1] ∧ Ext w w') := by
 unfold ref08_sum at h
 refine Rets.enter Try.func107 z z ?_
 have c : Sl Rep.u w (imm (Lg.O0 A)) v1 a1 := (Sl.start hs1)
 refine (show WC _ _ _ _ [(0, vu a0), (1, v1)] _ from ?_)
 refine sq (rg (wY (ya (v := vu 0) z) z (wY (ya z) z (nl (th (sq (sq (rg (wY (ya z) z ?_)))))))))
 refine nl (th (WC.block ?_))
 obtain ⟨t, h, n⟩ := flow1 h
 obtain ⟨C, h⟩ := loop_some h
 refine WC.joinB 0 (σ := UInt64) (fun x w' => t = .go x ∧ w = w') (fun x => [(0, vu x)]) ?_ ?_
 ·refine WC.loop (σ := (UInt64 × Int)) (fun x k w' => loopN k (ref08_sum_lp1 a1) (x.1, x.2) = some t ∧ w = w') (fun x => [(0, vu x.1), (1, v1), (6, vi x.2)]) (a0, 0) C (.cons z (.cons z (.cons z .nil))) ⟨h, z⟩ ?_
  rintro ⟨D, W⟩ C _ ⟨h, rfl⟩
  obtain ⟨Z, am, rfl, h, d⟩ := rnd1 h
  unfold ref08_sum_lp1 at h
  try dsimp only at h
  refine (show WC _ _ _ _ [(0, vu D), (1, v1), (6, vi W)] _ from ?_)
  refine sq (sq (rg (wY (ym z) z (wY (ym z) z (wY (Y.len ty26 z c) z (wY (Y.lss_i z z) z (nl (th ?_))))))))
  rcases cnd h with ⟨e, h⟩ | ⟨e, h⟩
  ·refine WC.condT' z e (sk (th (sq (WC.block (sq (sq (rg (wY (ym z) z (wY (ym z) z ?_)))))))))
   obtain ⟨aa, F, h⟩ := bnd h
   obtain ⟨an, af, ah, ak, G, H, I, j, o, J⟩ := Sl.at2 c F
   obtain rfl := o
   replace j : CellsAt _ _ _ [vu aa] := j
   have p := CAt.imm j J
   refine wY (Y.indexAddr ty26 ty25 z G z H I) z (wY (yl ty25 z z p.at_) z (wY (ym z) z (wY (Y.sub_u (a := 18446744073709551615) z z) z (wY (Y.gtr_u z z) z (nl (th ?_))))))
   rcases cnd h with ⟨l, h⟩ | ⟨l, h⟩
   ·refine WC.condT' z l (sq (rg (wY (ya (v := vu 0) z) z (wY (ya z) z (nl (th (rt (At.thenR (At.inBlockR ?_)))))))))
    refine At.thenR (At.loopR ?_)
    have h := outr1 h d n
    refine At.joinBR (At.inBlockR (At.thenR ?_))
    obtain ⟨rfl, rfl⟩ := tup2 h
    have K : Stp [] (Lg.O0 A) w (Lg.O0 A) w := (sr_ _ _ _)
    exact At.res (.inl z) z (.tmp z (.tmp z .nil)) ⟨z, (se_ K z z)⟩
   ·refine WC.condF' z l (sk (th (rg (wY (ym z) z (wY (ym z) z (wY (ym z) z ?_))))))
    obtain ⟨ab, L, h⟩ := bnd h
    obtain ⟨ao, ai, aj, al, M, P, Q, m, q, S⟩ := Sl.at2 c L
    obtain rfl := q
    replace m : CellsAt _ _ _ [vu ab] := m
    have r := CAt.imm m S
    refine wY (Y.indexAddr ty26 ty25 z M z P Q) z (wY (yl ty25 z z r.at_) z (wY (Y.add_u z z) z ?_))
    obtain ⟨ac, T, h⟩ := lt1 h
    refine WL.yE (ya z) (congrArg vu T.symm) z (nl (At.inBlock (th (rg (wY (ym z) z (wY (Y.add_i z z) z ?_))))))
    obtain ⟨ad, U, h⟩ := lt1 h
    refine WL.yE (ya z) (congrArg vi U.symm) z (nl ?_)
    exact At.round (ac, ad) Z (Nat.lt_succ_self _) ⟨next1 h d, z⟩ (.cons z (.cons z (.cons z .nil)))
  ·refine WC.condF' z e (WC.exit (At.thenX (At.loopX ?_)))
   exact At.hitB (σ := UInt64) D ⟨brk1 h d, z⟩ (.cons z .nil)
 ·rintro ae _ ⟨rfl, rfl⟩
  replace h := flowK_go n
  try dsimp only at h
  refine (show At _ _ _ [(0, vu ae)] _ from ?_)
  refine At.inBlockHit (th (sq (rg (wY (ym z) z (wY (ya z) z (wY (ya z) z (nl (th (rt ?_)))))))))
  obtain ⟨rfl, rfl⟩ := tup2 h
  have V : Stp [] (Lg.O0 A) w (Lg.O0 A) w := (sr_ _ _ _)
  exact At.res (.inl z) z (.tmp z (.tmp z .nil)) ⟨z, (se_ V z z)⟩
theorem c_ref08_Total {A : Nat → Prop} {v0_3 : Value} {v0_5 : Value} {a0 : api_Hist} {w : World} (hs0_3 : Sl Rep.u w A v0_3 a0.Pos.Counts) (hs0_5 : Sl Rep.u w A v0_5 a0.Neg.Counts) {r0 : UInt64} {r1 : Bool} (h : ref08_Total a0 = some (r0, r1)) : Rets Try.prog 85 [ag [vi a0.Scale, vu a0.Zero, vi a0.Pos.Offset, v0_3, vi a0.Neg.Offset, v0_5]] w (fun v w' => v = tp [vu r0, vB r1] ∧ Ext w w') := by
 unfold ref08_Total at h
 refine Rets.enter Try.func85 z z ?_
 have l : Sl Rep.u w (imm (Lg.O0 A)) v0_3 a0.Pos.Counts := (Sl.start hs0_3)
 have m : Sl Rep.u w (imm (Lg.O0 A)) v0_5 a0.Neg.Counts := (Sl.start hs0_5)
 refine (show WC _ _ _ _ [(0, ag [vi a0.Scale, vu a0.Zero, vi a0.Pos.Offset, v0_3, vi a0.Neg.Offset, v0_5])] _ from ?_)
 refine sq (rg ?_)
 have F := h
 obtain ⟨o, p, q, rfl⟩ := l.shape
 have h := F
 have G := h
 obtain ⟨r, t, C, rfl⟩ := m.shape
 have h := G
 refine WL.box (O := (Lg.O0 A)) 11 [vi a0.Scale, vu a0.Zero, vi a0.Pos.Offset, (Value.slice o p q), vi a0.Neg.Offset, (Value.slice r t C)] z z z ?_
 intro aj W af c e
 refine wY (ya (v := vu 0) z) z (wY (ya z) z (nl (th (sq (rg (wY (yf fo30_1 z) z (wY (yl ty25 z z (e.cell 1 _ z)) z (wY (yf fo30_2 z) z (wY (yf fo28_1 z) z ?_)))))))))
 refine wY (yl ty26 z z (e.cell 3 _ z)) z ?_
 have H := l.i c z z
 obtain ⟨⟨Z, ak⟩, I, h⟩ := bnd h
 refine WL.call (vals := [vu a0.Zero, (Value.slice o p q)]) kok107 z z (c_ref08_sum (A := fun _ => True) (Sl.all H) I) ?_
 rintro ah J ⟨rfl, K⟩
 obtain ⟨D, aa, ab, d⟩ := adoptE W (fun k => 1) K
 refine wY (ym z) z (wY (yx z z) z (wY (yx z z) z (wY (ya z) z (wY (ya z) z (nl (th (sq (sq (rg ?_)))))))))
 refine wY (ym z) z (wY (Y.not z) z (nl (th ?_)))
 rcases cnd h with ⟨j, h⟩ | ⟨j, h⟩
 ·refine WC.condT' z j (sq (rg (wY (ya (v := vu 0) z) z (wY (ya z) z (nl (th (rt (At.thenR ?_))))))))
  obtain ⟨rfl, rfl⟩ := tup2 h
  have L : Stp [] (Lg.O0 A) w D J := (tr_ (su_ c z) (su_ d z))
  exact At.res (.inl z) z (.tmp z (.tmp z .nil)) ⟨z, (se_ L z z)⟩
 ·refine WC.condF' z j (sk (th (sq (rg (wY (ym z) z (wY (yf fo30_3 z) z (wY (yf fo28_1 z) z ?_)))))))
  have M := e.st d z
  refine wY (yl ty26 z z (M.cell 5 _ z)) z ?_
  have P := m.i c z z
  have Q := P.i d z z
  obtain ⟨⟨al, am⟩, S, h⟩ := bnd h
  refine WL.call (vals := [vu Z, (Value.slice r t C)]) kok107 z z (c_ref08_sum (A := fun _ => True) (Sl.all Q) S) ?_
  rintro ai T ⟨rfl, U⟩
  obtain ⟨ac, ad, ae, n⟩ := adoptE D (fun k => 1) U
  refine wY (yx z z) z (wY (yx z z) z (wY (ya z) z (wY (ya z) z (nl (th (rt ?_))))))
  obtain ⟨rfl, rfl⟩ := tup2 h
  have V : Stp [] (Lg.O0 A) w ac T := (tr_ (su_ c z) (tr_ (su_ d z) (su_ n z)))
  exact At.res (.inl z) z (.tmp z (.tmp z .nil)) ⟨z, (se_ V z z)⟩
theorem c_ref08_side {A : Nat → Prop} {v0_1 : Value} {a0 : api_Side} {w : World} (hs0_1 : Sl Rep.u w A v0_1 a0.Counts) {r0 : Int} (h : ref08_side a0 = some r0) : Rets Try.prog 105 [ag [vi a0.Offset, v0_1]] w (fun v w' => v = vi r0 ∧ Ext w w') := by
 unfold ref08_side at h
 refine Rets.enter Try.func105 z z ?_
 have I : Sl Rep.u w (imm (Lg.O0 A)) v0_1 a0.Counts := (Sl.start hs0_1)
 refine (show WC _ _ _ _ [(0, ag [vi a0.Offset, v0_1])] _ from ?_)
 refine sq (rg ?_)
 have S := h
 obtain ⟨an, ao, ap, rfl⟩ := I.shape
 have h := S
 refine WL.box (O := (Lg.O0 A)) 11 [vi a0.Offset, (Value.slice an ao ap)] z z z ?_
 intro H l c d j
 refine wY (ya z) z (nl (th (sq (rg (wY (yf fo28_1 z) z (wY (yl ty26 z z (j.cell 1 _ z)) z ?_))))))
 have m := I.i d z z
 refine wY (Y.len ty26 z m) z ?_
 obtain ⟨e, J, h⟩ := lt1 h
 refine WL.yE (ya z) (congrArg vi J.symm) z (nl (th (sq (sq (rg (wY (ym z) z (wY (Y.gtr_i z z) z (nl (th ?_)))))))))
 rcases cnd h with ⟨n, h⟩ | ⟨n, h⟩
 ·refine WC.condT' z n (sq (rg (wY (ya z) z (nl (th (rt (At.thenR ?_)))))))
  obtain rfl := some1 h
  have T : Stp [] (Lg.O0 A) w l c := (su_ d z)
  exact At.res (.inl z) z (.tmp z .nil) ⟨z, (se_ T z z)⟩
 ·refine WC.condF' z n (sk (th (sq (sq (rg (wY (ym z) z (wY (Y.eql_i z z) z (nl (th ?_)))))))))
  rcases cnd h with ⟨o, h⟩ | ⟨o, h⟩
  ·refine WC.condT' z o (sq (sq (rg (wY (yf fo28_0 z) z (wY (yl ty3 z z (j.cell 0 _ z)) z (wY (Y.neq_i z z) z (nl (th ?_))))))))
   rcases cnd h with ⟨p, h⟩ | ⟨p, h⟩
   ·refine WC.condT' z p (sq (rg (wY (ya z) z (nl (th (rt (At.thenR (At.thenR ?_))))))))
    obtain rfl := some1 h
    have U : Stp [] (Lg.O0 A) w l c := (su_ d z)
    exact At.res (.inl z) z (.tmp z .nil) ⟨z, (se_ U z z)⟩
   ·refine WC.condF' z p (sk (th (sq (rg (wY (ya z) z (nl (th (rt (At.thenR ?_)))))))))
    obtain rfl := some1 h
    have V : Stp [] (Lg.O0 A) w l c := (su_ d z)
    exact At.res (.inl z) z (.tmp z .nil) ⟨z, (se_ V z z)⟩
  ·refine WC.condF' z o (sk (th (sq (sq (rg (wY (yf fo28_1 z) z (wY (yl ty26 z z (j.cell 1 _ z)) z ?_)))))))
   obtain ⟨aq, W, h⟩ := bnd h
   obtain ⟨aC, av, aw, az, Z, aa, ab, q, K, ac⟩ := Sl.at2 m W
   obtain rfl := K
   replace q : CellsAt _ _ _ [vu aq] := q
   have L := CAt.imm q ac
   refine wY (Y.indexAddr ty26 ty25 z Z z aa ab) z (wY (yl ty25 z z L.at_) z (wY (Y.eql_u (b := 0) z z) z (wY (ym z) z ?_)))
   obtain ⟨ar, h, ad⟩ := bnd h
   refine WL.cut 8 (σ := Bool) (fun x w' => x = ar ∧ c = w') (fun x => [(1, pt H 0), (3, vi e), (27, vB x)]) ?_ ?_
   ·rcases cnd h with ⟨r, h⟩ | ⟨r, h⟩
    ·refine WL.ren 19 z (congrArg vB r) (WL.gS z z z z (WL.gS z z z z (WL.gS z z z z (WL.gS z z z z (WL.gS z z z z (WL.gS z z z z (WL.gS z z z z (wY (Y.pick (b := true) z z) z ?_))))))))
     exact nl (At.join (σ := Bool) true ⟨some1 h, z⟩ (.cons z (.cons z (.cons z .nil))))
    ·refine WL.ren 19 z (congrArg vB r) (ug z z (wY (yf fo28_1 z) z (ug z z (wY (yl ty26 z z (j.cell 1 _ z)) z (ug z z (wY (ym z) z (ug z z (wY (Y.sub_i z z) z (ug z z ?_)))))))))
     obtain ⟨Q, ae, h⟩ := bnd h
     obtain ⟨aD, ax, ay, aA, af, ah, ai, t, M, aj⟩ := Sl.at2 m ae
     obtain rfl := M
     replace t : CellsAt _ _ _ [vu Q] := t
     have P := CAt.imm t aj
     refine wY (Y.indexAddr ty26 ty25 z af z ah ai) z (ug z z (wY (yl ty25 z z P.at_) z (ug z z (wY (Y.eql_u (b := 0) z z) z (wY (Y.pick (b := false) z z) z ?_)))))
     exact nl (At.join (σ := Bool) (decide (Q = 0)) ⟨some1 h, z⟩ (.cons z (.cons z (.cons z .nil))))
   ·rintro au _ ⟨rfl, rfl⟩
    replace h := ad
    try dsimp only at h
    refine (show WL _ _ _ _ _ [(1, pt H 0), (3, vi e), (27, vB au)] _ from ?_)
    refine nl (th ?_)
    rcases cnd h with ⟨C, h⟩ | ⟨C, h⟩
    ·refine WC.condT' z C (sq (rg (wY (ya z) z (nl (th (rt (At.thenR ?_)))))))
     obtain rfl := some1 h
     have ak : Stp [] (Lg.O0 A) w l c := (su_ d z)
     exact At.res (.inl z) z (.tmp z .nil) ⟨z, (se_ ak z z)⟩
    ·refine WC.condF' z C (sk (th (sq (sq (rg (wY (yf fo28_0 z) z (wY (yl ty3 z z (j.cell 0 _ z)) z (wY (Y.lss_i z z) z (wY (ym z) z ?_)))))))))
     refine WL.cut 4 (σ := Unit) (fun _ w' => c = w') (fun _ => [(1, pt H 0), (3, vi e), (35, vB ((decide (a0.Offset < (-1073741824))) || (decide (1073741824 < a0.Offset))))]) ?_ ?_
     ·refine WL.part 31 z (fun D => ?_) (fun D => ?_)
      ·refine WL.gS z z z z (WL.gS z z z z (WL.gS z z z z (wY (Y.pick (b := true) z z) z (WL.ren (v' := vB ((decide (a0.Offset < (-1073741824))) || (decide (1073741824 < a0.Offset)))) 35 z (congrArg vB (orT D)) ?_))))
       exact nl (At.join () z (.cons z (.cons z (.cons z .nil))))
      ·refine ug z z (wY (yf fo28_0 z) z (ug z z (wY (yl ty3 z z (j.cell 0 _ z)) z (ug z z (wY (Y.gtr_i z z) z (wY (Y.pick (b := false) z z) z (WL.ren (v' := vB ((decide (a0.Offset < (-1073741824))) || (decide (1073741824 < a0.Offset)))) 35 z (congrArg vB (orF D)) ?_)))))))
       exact nl (At.join () z (.cons z (.cons z (.cons z .nil))))
     ·rintro _ _ rfl
      refine (show WL _ _ _ _ _ [(1, pt H 0), (3, vi e), (35, vB ((decide (a0.Offset < (-1073741824))) || (decide (1073741824 < a0.Offset))))] _ from ?_)
      refine wY (ym z) z ?_
      refine WL.cut 7 (σ := Unit) (fun _ w' => c = w') (fun _ => [(43, vB (((decide (a0.Offset < (-1073741824))) || (decide (1073741824 < a0.Offset))) || (decide (1073741824 < w64 ((w64 (a0.Offset + e)) - 1)))))]) ?_ ?_
      ·refine WL.part 36 z (fun F => ?_) (fun F => ?_)
       ·refine WL.gS z z z z (WL.gS z z z z (WL.gS z z z z (WL.gS z z z z (WL.gS z z z z (WL.gS z z z z (wY (Y.pick (b := true) z z) z (WL.ren (v' := vB (((decide (a0.Offset < (-1073741824))) || (decide (1073741824 < a0.Offset))) || (decide (1073741824 < w64 ((w64 (a0.Offset + e)) - 1))))) 43 z (congrArg vB (orT F)) ?_)))))))
        exact nl (At.join () z (.cons z .nil))
       ·refine ug z z (wY (yf fo28_0 z) z (ug z z (wY (yl ty3 z z (j.cell 0 _ z)) z (ug z z (wY (ym z) z (ug z z (wY (Y.add_i z z) z (ug z z (wY (Y.sub_i z z) z ?_)))))))))
        refine ug z z (wY (Y.gtr_i z z) z (wY (Y.pick (b := false) z z) z (WL.ren (v' := vB (((decide (a0.Offset < (-1073741824))) || (decide (1073741824 < a0.Offset))) || (decide (1073741824 < w64 ((w64 (a0.Offset + e)) - 1))))) 43 z (congrArg vB (orF F)) ?_)))
        exact nl (At.join () z (.cons z .nil))
      ·rintro _ _ rfl
       refine (show WL _ _ _ _ _ [(43, vB (((decide (a0.Offset < (-1073741824))) || (decide (1073741824 < a0.Offset))) || (decide (1073741824 < w64 ((w64 (a0.Offset + e)) - 1)))))] _ from ?_)
       refine nl (th ?_)
       rcases cnd h with ⟨G, h⟩ | ⟨G, h⟩
       ·refine WC.condT' z G (sq (rg (wY (ya z) z (nl (th (rt (At.thenR ?_)))))))
        obtain rfl := some1 h
        have al : Stp [] (Lg.O0 A) w l c := (su_ d z)
        exact At.res (.inl z) z (.tmp z .nil) ⟨z, (se_ al z z)⟩
       ·refine WC.condF' z G (sk (th (sq (rg (wY (ya z) z (nl (th (rt ?_))))))))
        obtain rfl := some1 h
        have am : Stp [] (Lg.O0 A) w l c := (su_ d z)
        exact At.res (.inl z) z (.tmp z .nil) ⟨z, (se_ am z z)⟩
theorem c_ref08_Check {A : Nat → Prop} {v0_3 : Value} {v0_5 : Value} {a0 : api_Hist} {w : World} (hs0_3 : Sl Rep.u w A v0_3 a0.Pos.Counts) (hs0_5 : Sl Rep.u w A v0_5 a0.Neg.Counts) {r0 : Int} (h : ref08_Check a0 = some r0) : Rets Try.prog 82 [ag [vi a0.Scale, vu a0.Zero, vi a0.Pos.Offset, v0_3, vi a0.Neg.Offset, v0_5]] w (fun v w' => v = vi r0 ∧ Ext w w') := by
 unfold ref08_Check at h
 refine Rets.enter Try.func82 z z ?_
 have H : Sl Rep.u w (imm (Lg.O0 A)) v0_3 a0.Pos.Counts := (Sl.start hs0_3)
 have I : Sl Rep.u w (imm (Lg.O0 A)) v0_5 a0.Neg.Counts := (Sl.start hs0_5)
 refine (show WC _ _ _ _ [(0, ag [vi a0.Scale, vu a0.Zero, vi a0.Pos.Offset, v0_3, vi a0.Neg.Offset, v0_5])] _ from ?_)
 refine sq (rg ?_)
 have W := h
 obtain ⟨l, m, n, rfl⟩ := H.shape
 have h := W
 have Z := h
 obtain ⟨o, p, q, rfl⟩ := I.shape
 have h := Z
 refine WL.box (O := (Lg.O0 A)) 11 [vi a0.Scale, vu a0.Zero, vi a0.Pos.Offset, (Value.slice l m n), vi a0.Neg.Offset, (Value.slice o p q)] z z z ?_
 intro Q S J c j
 refine wY (ya z) z (nl (th (sq (sq (rg (wY (yf fo30_0 z) z (wY (yl ty3 z z (j.cell 0 _ z)) z (wY (Y.lss_i z z) z (wY (ym z) z ?_)))))))))
 refine WL.cut 4 (σ := Unit) (fun _ w' => J = w') (fun _ => [(1, pt Q 0), (14, vB ((decide (a0.Scale < (-10))) || (decide (20 < a0.Scale))))]) ?_ ?_
 ·refine WL.part 10 z (fun r => ?_) (fun r => ?_)
  ·refine WL.gS z z z z (WL.gS z z z z (WL.gS z z z z (wY (Y.pick (b := true) z z) z (WL.ren (v' := vB ((decide (a0.Scale < (-10))) || (decide (20 < a0.Scale)))) 14 z (congrArg vB (orT r)) ?_))))
   exact nl (At.join () z (.cons z (.cons z .nil)))
  ·refine ug z z (wY (yf fo30_0 z) z (ug z z (wY (yl ty3 z z (j.cell 0 _ z)) z (ug z z (wY (Y.gtr_i z z) z (wY (Y.pick (b := false) z z) z (WL.ren (v' := vB ((decide (a0.Scale < (-10))) || (decide (20 < a0.Scale)))) 14 z (congrArg vB (orF r)) ?_)))))))
   exact nl (At.join () z (.cons z (.cons z .nil)))
 ·rintro _ _ rfl
  refine (show WL _ _ _ _ _ [(1, pt Q 0), (14, vB ((decide (a0.Scale < (-10))) || (decide (20 < a0.Scale))))] _ from ?_)
  refine nl (th ?_)
  rcases cnd h with ⟨t, h⟩ | ⟨t, h⟩
  ·refine WC.condT' z t (sq (rg (wY (ya z) z (nl (th (rt (At.thenR ?_)))))))
   obtain rfl := some1 h
   have aa : Stp [] (Lg.O0 A) w S J := (su_ c z)
   exact At.res (.inl z) z (.tmp z .nil) ⟨z, (se_ aa z z)⟩
  ·refine WC.condF' z t (sk (th (sq (sq (rg (wY (yf fo30_2 z) z (wY (yL ty28 z z (j.cells 2 [vi a0.Pos.Offset, (Value.slice l m n)] z) z) z ?_)))))))
   have K := H.i c z z
   obtain ⟨aF, ab, h⟩ := bnd h
   refine WL.call (vals := [ag [vi a0.Pos.Offset, (Value.slice l m n)]]) kok105 z z (c_ref08_side (A := fun _ => True) (a0 := a0.Pos) (Sl.all K) ab) ?_
   rintro aC ac ⟨rfl, ad⟩
   obtain ⟨T, av, aw, d⟩ := adoptE S (fun k => 1) ad
   refine wY (ya z) z (nl (th (sq (rg (wY (ym z) z (wY (Y.neq_i z z) z (nl (th ?_))))))))
   rcases cnd h with ⟨C, h⟩ | ⟨C, h⟩
   ·refine WC.condT' z C (sq (rg (wY (ym z) z (wY (ya z) z (nl (th (rt (At.thenR ?_))))))))
    obtain rfl := some1 h
    have ae : Stp [] (Lg.O0 A) w T ac := (tr_ (su_ c z) (su_ d z))
    exact At.res (.inl z) z (.tmp z .nil) ⟨z, (se_ ae z z)⟩
   ·refine WC.condF' z C (sk (th (sq (sq (rg (wY (yf fo30_3 z) z ?_))))))
    have L := j.st d z
    refine wY (yL ty28 z z (L.cells 4 [vi a0.Neg.Offset, (Value.slice o p q)] z) z) z ?_
    have af := I.i c z z
    have M := af.i d z z
    obtain ⟨aG, ah, h⟩ := bnd h
    refine WL.call (vals := [ag [vi a0.Neg.Offset, (Value.slice o p q)]]) kok105 z z (c_ref08_side (A := fun _ => True) (a0 := a0.Neg) (Sl.all M) ah) ?_
    rintro aD ai ⟨rfl, aj⟩
    obtain ⟨U, ax, ay, e⟩ := adoptE T (fun k => 1) aj
    refine wY (ya z) z (nl (th (sq (rg (wY (ym z) z (wY (Y.neq_i z z) z (nl (th ?_))))))))
    rcases cnd h with ⟨D, h⟩ | ⟨D, h⟩
    ·refine WC.condT' z D (sq (rg (wY (ym z) z (wY (ya z) z (nl (th (rt (At.thenR ?_))))))))
     obtain rfl := some1 h
     have ak : Stp [] (Lg.O0 A) w U ai := (tr_ (su_ c z) (tr_ (su_ d z) (su_ e z)))
     exact At.res (.inl z) z (.tmp z .nil) ⟨z, (se_ ak z z)⟩
    ·refine WC.condF' z D (sk (th (sq (sq (rg ?_)))))
     have al := L.st e z
     refine wY (yL ty30 z z (al.cells 0 [vi a0.Scale, vu a0.Zero, vi a0.Pos.Offset, (Value.slice l m n), vi a0.Neg.Offset, (Value.slice o p q)] z) z) z ?_
     have am := K.i d z z
     have an := am.i e z z
     have ao := M.i e z z
     obtain ⟨⟨aH, aI⟩, ap, h⟩ := bnd h
     refine WL.call (vals := [ag [vi a0.Scale, vu a0.Zero, vi a0.Pos.Offset, (Value.slice l m n), vi a0.Neg.Offset, (Value.slice o p q)]]) kok85 z z (c_ref08_Total (A := fun _ => True) (a0 := a0) (Sl.all an) (Sl.all ao) ap) ?_
     rintro aE P ⟨rfl, aq⟩
     obtain ⟨V, az, aA, G⟩ := adoptE U (fun k => 1) aq
     refine wY (ym z) z (wY (yx z z) z (wY (yx z z) z (wY (ya z) z (wY (ya z) z (nl (th (sq (rg (wY (ym z) z ?_)))))))))
     refine wY (Y.not z) z (nl (th ?_))
     rcases cnd h with ⟨F, h⟩ | ⟨F, h⟩
     ·refine WC.condT' z F (sq (rg (wY (ya z) z (nl (th (rt (At.thenR ?_)))))))
      obtain rfl := some1 h
      have ar : Stp [] (Lg.O0 A) w V P := (tr_ (su_ c z) (tr_ (su_ d z) (tr_ (su_ e z) (su_ G z))))
      exact At.res (.inl z) z (.tmp z .nil) ⟨z, (se_ ar z z)⟩
     ·refine WC.condF' z F (sk (th (sq (rg (wY (ya z) z (nl (th (rt ?_))))))))
      obtain rfl := some1 h
      have au : Stp [] (Lg.O0 A) w V P := (tr_ (su_ c z) (tr_ (su_ d z) (tr_ (su_ e z) (su_ G z))))
      exact At.res (.inl z) z (.tmp z .nil) ⟨z, (se_ au z z)⟩
theorem c_ref08_Trim {A : Nat → Prop} {v0_1 : Value} {a0 : api_Side} {w : World} (hs0_1 : Sl Rep.u w A v0_1 a0.Counts) {r0 : api_Side} (h : ref08_Trim a0 = some r0) : Rets Try.prog 83 [ag [vi a0.Offset, v0_1]] w (fun v w' => ∃ (ah : Value), v = ag [vi r0.Offset, ah] ∧ Ext w w' ∧ Sl Rep.u w' (fun k => w.heap.size ≤ k) ah r0.Counts) := by
 unfold ref08_Trim at h
 refine Rets.enter Try.func83 z z ?_
 have ai : Sl Rep.u w (imm (Lg.O0 A)) v0_1 a0.Counts := (Sl.start hs0_1)
 refine (show WC _ _ _ _ [(0, ag [vi a0.Offset, v0_1])] _ from ?_)
 refine sq (rg ?_)
 have bi := h
 obtain ⟨a4, a5, a6, rfl⟩ := ai.shape
 have h := bi
 refine WL.box (O := (Lg.O0 A)) 11 [vi a0.Offset, (Value.slice a4 a5 a6)] z z z ?_
 intro cg bK b8 r bj
 refine WL.alloc (O := bK) 12 [vi 0, Value.slice none 0 0] ty28 z z ?_
 intro d Z Q p aj
 refine nl (th (sq (rg (wY (yf fo28_1 z) z ?_))))
 have ak := bj.st p z
 refine wY (yl ty26 z z (ak.cell 1 _ z)) z (wY (ya z) z (nl (th (sq (rg (wY (yf fo28_0 z) z (wY (yl ty3 z z (ak.cell 0 _ z)) z (wY (ya z) z (nl ?_)))))))))
 refine th (sq ?_)
 obtain ⟨bL, h, bk⟩ := bnd h
 refine WC.join (σ := (List UInt64 × Int × Own × Value)) (fun x w' => (x.1, x.2.1) = bL ∧ Stp [] Z Q x.2.2.1 w' ∧ Sl Rep.u w' (imm x.2.2.1) x.2.2.2 x.1) (fun x => [(2, pt d 0), (3, x.2.2.2), (4, vi x.2.1)]) ?_ ?_
 ·refine WC.block ?_
  obtain ⟨a7, h, bl⟩ := flow1 h
  obtain ⟨a8, h⟩ := loop_some h
  refine WC.joinB 0 (σ := (List UInt64 × Int × Own × Value)) (fun x w' => a7 = .go (x.1, x.2.1) ∧ Stp [] Z Q x.2.2.1 w' ∧ Sl Rep.u w' (imm x.2.2.1) x.2.2.2 x.1) (fun x => [(2, pt d 0), (3, x.2.2.2), (4, vi x.2.1)]) ?_ ?_
  ·have bm := ai.i r z z
   have bn := bm.i p z z
   refine WC.loop (σ := (List UInt64 × Int × Own × Value)) (fun x k w' => loopN k (ref08_Trim_lp1) (x.1, x.2.1) = some a7 ∧ Stp [] Z Q x.2.2.1 w' ∧ Sl Rep.u w' (imm x.2.2.1) x.2.2.2 x.1) (fun x => [(2, pt d 0), (3, x.2.2.2), (4, vi x.2.1)]) (a0.Counts, a0.Offset, Z, (Value.slice a4 a5 a6)) a8 (.cons z (.cons z (.cons z .nil))) ⟨h, (sr_ _ _ _), bn⟩ ?_
   rintro ⟨bM, t, a9, J⟩ a8 bo ⟨h, C, q⟩
   obtain ⟨bO, ch, rfl, h, al⟩ := rnd1 h
   unfold ref08_Trim_lp1 at h
   try dsimp only at h C q
   refine (show WC _ _ _ _ [(2, pt d 0), (3, J), (4, vi t)] _ from ?_)
   refine sq (sq (rg (wY (ym z) z (wY (Y.len ty26 z q) z (wY (Y.gtr_i z z) z (wY (ym z) z ?_))))))
   obtain ⟨bP, h, bp⟩ := bnd h
   refine WL.cut 5 (σ := Bool) (fun x w' => x = bP ∧ bo = w') (fun x => [(2, pt d 0), (3, J), (4, vi t), (18, vB x)]) ?_ ?_
   ·rcases cnd h with ⟨S, h⟩ | ⟨S, h⟩
    ·refine WL.ren 13 z (congrArg vB S) (ug z z (wY (ym z) z (ug z z ?_)))
     obtain ⟨ba, bq, h⟩ := bnd h
     obtain ⟨ci, b3, b4, b9, br, bs, bt, T, az, bu⟩ := Sl.at2 q bq
     obtain rfl := az
     replace T : CellsAt _ _ _ [vu ba] := T
     have aA := CAt.imm T bu
     refine wY (Y.indexAddr ty26 ty25 z br z bs bt) z (ug z z (wY (yl ty25 z z aA.at_) z (ug z z (wY (Y.eql_u (b := 0) z z) z (wY (Y.pick (b := true) z z) z ?_)))))
     exact nl (At.join (σ := Bool) (decide (ba = 0)) ⟨some1 h, z⟩ (.cons z (.cons z (.cons z (.cons z .nil)))))
    ·refine WL.ren 13 z (congrArg vB S) (WL.gS z z z z (WL.gS z z z z (WL.gS z z z z (WL.gS z z z z (wY (Y.pick (b := false) z z) z ?_)))))
     exact nl (At.join (σ := Bool) false ⟨some1 h, z⟩ (.cons z (.cons z (.cons z (.cons z .nil)))))
   ·rintro bQ _ ⟨rfl, rfl⟩
    replace h := bp
    try dsimp only at h
    refine (show WL _ _ _ _ _ [(2, pt d 0), (3, J), (4, vi t), (18, vB bQ)] _ from ?_)
    refine nl (th ?_)
    rcases cnd h with ⟨U, h⟩ | ⟨U, h⟩
    ·refine WC.condT' z U (sk (th (WC.block (sq (rg (wY (ym z) z ?_))))))
     obtain ⟨bR, bw, h⟩ := bnd h
     obtain ⟨bS, bx, bz⟩ := Sl.slice (ρ := [(19, J)]) (x := (.tmp 19)) (lo := (some (.const (.int .i64 1)))) (hi := none) ty26 ty25 rfl rfl rfl q bw
     refine wY (Y.sub (.cons z .nil) (bx _ _)) z (wY (ya z) z (nl (th (rg (wY (ym z) z (wY (Y.add_i z z) z ?_))))))
     obtain ⟨bA, aC, h⟩ := lt1 h
     refine WL.yE (ya z) (congrArg vi aC.symm) z (nl (At.inBlock ?_))
     exact At.round (bR, bA, a9, bS) bO (Nat.lt_succ_self _) ⟨next1 h al, (su_ C z), bz⟩ (.cons z (.cons z (.cons z .nil)))
    ·refine WC.condF' z U (WC.exit (At.thenX (At.loopX ?_)))
     exact At.hitB (σ := (List UInt64 × Int × Own × Value)) (bM, t, a9, J) ⟨brk1 h al, (su_ C z), q⟩ (.cons z (.cons z (.cons z .nil)))
  ·rintro ⟨bT, am, bU, bb⟩ ca ⟨rfl, aa, an⟩
   replace h := flowK_go bl
   try dsimp only at h aa an
   refine (show At _ _ _ [(2, pt d 0), (3, bb), (4, vi am)] _ from ?_)
   refine At.inBlockHit ?_
   exact At.join (σ := (List UInt64 × Int × Own × Value)) (bT, am, bU, bb) ⟨some1 h, (su_ aa z), an⟩ (.cons z (.cons z (.cons z .nil)))
 ·rintro ⟨bW, c, ab, bc⟩ V ⟨rfl, j, ao⟩
  replace h := bk
  try dsimp only at h j ao
  refine (show At _ _ _ [(2, pt d 0), (3, bc), (4, vi c)] _ from ?_)
  refine th (sq ?_)
  obtain ⟨bX, h, bB⟩ := bnd h
  refine WC.join (σ := (List UInt64 × Own × Value)) (fun x w' => x.1 = bX ∧ Stp [] ab V x.2.1 w' ∧ Sl Rep.u w' (imm x.2.1) x.2.2 x.1) (fun x => [(2, pt d 0), (3, x.2.2), (4, vi c)]) ?_ ?_
  ·refine WC.block ?_
   obtain ⟨ap, h, aD⟩ := flow1 h
   obtain ⟨aq, h⟩ := loop_some h
   refine WC.joinB 2 (σ := (List UInt64 × Own × Value)) (fun x w' => ap = .go x.1 ∧ Stp [] ab V x.2.1 w' ∧ Sl Rep.u w' (imm x.2.1) x.2.2 x.1) (fun x => [(2, pt d 0), (3, x.2.2), (4, vi c)]) ?_ ?_
   ·refine WC.loop (σ := (List UInt64 × Own × Value)) (fun x k w' => loopN k (ref08_Trim_lp2) x.1 = some ap ∧ Stp [] ab V x.2.1 w' ∧ Sl Rep.u w' (imm x.2.1) x.2.2 x.1) (fun x => [(2, pt d 0), (3, x.2.2), (4, vi c)]) (bW, ab, bc) aq (.cons z (.cons z (.cons z .nil))) ⟨h, (sr_ _ _ _), ao⟩ ?_
    rintro ⟨bd, bf, K⟩ aq bC ⟨h, D, e⟩
    obtain ⟨bD, cb, rfl, h, ac⟩ := rnd1 h
    unfold ref08_Trim_lp2 at h
    try dsimp only at h D e
    refine (show WC _ _ _ _ [(2, pt d 0), (3, K), (4, vi c)] _ from ?_)
    refine sq (sq (rg (wY (ym z) z (wY (Y.len ty26 z e) z (wY (Y.gtr_i z z) z (wY (ym z) z ?_))))))
    obtain ⟨bE, h, aE⟩ := bnd h
    refine WL.cut 8 (σ := Bool) (fun x w' => x = bE ∧ bC = w') (fun x => [(2, pt d 0), (3, K), (4, vi c), (34, vB x)]) ?_ ?_
    ·rcases cnd h with ⟨F, h⟩ | ⟨F, h⟩
     ·refine WL.ren 26 z (congrArg vB F) (ug z z (wY (ym z) z (ug z z (wY (ym z) z (ug z z (wY (Y.len ty26 z e) z (ug z z (wY (Y.sub_i z z) z (ug z z ?_)))))))))
      obtain ⟨ar, aF, h⟩ := bnd h
      obtain ⟨cc, bY, bZ, b5, aG, aH, aI, G, au, aJ⟩ := Sl.at2 e aF
      obtain rfl := au
      replace G : CellsAt _ _ _ [vu ar] := G
      have av := CAt.imm G aJ
      refine wY (Y.indexAddr ty26 ty25 z aG z aH aI) z (ug z z (wY (yl ty25 z z av.at_) z (ug z z (wY (Y.eql_u (b := 0) z z) z (wY (Y.pick (b := true) z z) z ?_)))))
      exact nl (At.join (σ := Bool) (decide (ar = 0)) ⟨some1 h, z⟩ (.cons z (.cons z (.cons z (.cons z .nil)))))
     ·refine WL.ren 26 z (congrArg vB F) (WL.gS z z z z (WL.gS z z z z (WL.gS z z z z (WL.gS z z z z (WL.gS z z z z (WL.gS z z z z (WL.gS z z z z (wY (Y.pick (b := false) z z) z ?_))))))))
      exact nl (At.join (σ := Bool) false ⟨some1 h, z⟩ (.cons z (.cons z (.cons z (.cons z .nil)))))
    ·rintro bF _ ⟨rfl, rfl⟩
     replace h := aE
     try dsimp only at h
     refine (show WL _ _ _ _ _ [(2, pt d 0), (3, K), (4, vi c), (34, vB bF)] _ from ?_)
     refine nl (th ?_)
     rcases cnd h with ⟨H, h⟩ | ⟨H, h⟩
     ·refine WC.condT' z H (sk (th (WC.block (rg (wY (ym z) z (wY (ym z) z (wY (Y.len ty26 z e) z (wY (Y.sub_i z z) z ?_))))))))
      obtain ⟨bG, aK, h⟩ := bnd h
      obtain ⟨bH, aL, aM⟩ := Sl.slice (ρ := [(35, K), (38, vi (w64 ((bd.length : Int) - 1)))]) (x := (.tmp 35)) (lo := none) (hi := (some (.tmp 38))) ty26 ty25 rfl rfl rfl e aK
      refine wY (Y.sub (.cons z (.cons z .nil)) (aL _ _)) z (wY (ya z) z (nl (At.inBlock ?_)))
      exact At.round (bG, bf, bH) bD (Nat.lt_succ_self _) ⟨next1 h ac, (su_ D z), aM⟩ (.cons z (.cons z (.cons z .nil)))
     ·refine WC.condF' z H (WC.exit (At.thenX (At.loopX ?_)))
      exact At.hitB (σ := (List UInt64 × Own × Value)) (bd, bf, K) ⟨brk1 h ac, (su_ D z), e⟩ (.cons z (.cons z (.cons z .nil)))
   ·rintro ⟨b0, b1, bg⟩ cd ⟨rfl, ad, aw⟩
    replace h := flowK_go aD
    try dsimp only at h ad aw
    refine (show At _ _ _ [(2, pt d 0), (3, bg), (4, vi c)] _ from ?_)
    refine At.inBlockHit ?_
    exact At.join (σ := (List UInt64 × Own × Value)) (b0, b1, bg) ⟨some1 h, (su_ ad z), aw⟩ (.cons z (.cons z (.cons z .nil)))
  ·rintro ⟨cj, bh, b2⟩ bI ⟨rfl, l, W⟩
   replace h := bB
   try dsimp only at h l W
   refine (show At _ _ _ [(2, pt d 0), (3, b2), (4, vi c)] _ from ?_)
   refine th (sq (sq (rg (wY (ym z) z (wY (Y.len ty26 z W) z (wY (Y.eql_i z z) z (nl (th ?_))))))))
   rcases cnd h with ⟨I, h⟩ | ⟨I, h⟩
   ·refine WC.condT' z I (sq (rg (wY (yb (vals := []) (cells := [vi 0, Value.slice none 0 0]) (fe_ z) (by kernel_rfl)) z ?_)))
    have aN := aj.st j z
    have aO := aN.st l z
    refine WL.store (v := ag [vi 0, Value.slice none 0 0]) (cells' := [vi 0, Value.slice none 0 0]) ty28 z z aO z (le_ z) z z ?_
    intro aP ax aQ
    refine nl (th (rt (At.thenR ?_)))
    obtain rfl := some1 h
    have aR : Stp [12] (Lg.O0 A) w bh aP := (tr_ (su_ r z) (tr_ (su_ p z) (tr_ (su_ j z) (tr_ (su_ l z) (su_ ax z)))))
    exact At.res (.inl z) z (.cell z (aQ.runAg 0 [vi 0, Value.slice none 0 0] ty28 z z z) .nil) ⟨Value.slice none 0 0, z, (se_ aR z z), (Or.inl ⟨z, z⟩)⟩
   ·refine WC.condF' z I (sk (th (sq (rg (wY (ya z) z (nl (th (sq (rg ?_)))))))))
    refine wY (ym z) z (wY (ym z) z ?_)
    obtain ⟨b6, ay, h⟩ := bnd h
    have aS := OwnSl.nil (O := bh) (w := bI) 13 Rep.u 25
    refine WL.append (by decide) ty26 ty25 z (by decide) z z aS (Sl.src W) ay z ?_
    intro ce cf b7 L ae
    refine wY (ya z) z (nl (th (sq (rg (wY (ym z) z (wY (ym z) z ?_))))))
    have aT := h
    obtain ⟨m, n, o, rfl⟩ := ae.shape
    have h := aT
    refine wY (yb (vals := [(0, vi c), (1, (Value.slice m n o))]) (cells := [vi c, (Value.slice m n o)]) (fe_ z) (by kernel_rfl)) z ?_
    have aU := aj.st j z
    have aW := aU.st l z
    have aX := aW.st L z
    refine WL.store (v := ag [vi c, (Value.slice m n o)]) (cells' := [vi c, (Value.slice m n o)]) ty28 z z aX z (le_ z) z z ?_
    intro aY M aZ
    refine nl (th (rt ?_))
    obtain rfl := some1 h
    have a1 := ae.st M z z z
    obtain ⟨bJ, P, a2⟩ := OwnSl.giveF rfl Flat.u a1
    have af : Stp [12, 13] (Lg.O0 A) w bJ aY := (tr_ (su_ r z) (tr_ (su_ p z) (tr_ (su_ j z) (tr_ (su_ l z) (tr_ (su_ L z) (tr_ (su_ M z) (su_ P z)))))))
    have a3 := aZ.st P z
    exact At.res (.inl z) z (.cell z (a3.runAg 0 [vi c, (Value.slice m n o)] ty28 z z z) .nil) ⟨(Value.slice m n o), z, (se_ af z z), (Sl.outF a2 af low0)⟩
theorem c_ref08_half {a0 : Int} {w : World} {r0 : Int} (h : ref08_half a0 = some r0) : Rets Try.prog 106 [vi a0] w (fun v w' => v = vi r0 ∧ Ext w w') := by
 unfold ref08_half at h
 refine Rets.enter Try.func106 z z ?_
 refine (show WC _ _ _ _ [(0, vi a0)] _ from ?_)
 refine sq (rg (wY (ya z) z (nl (th (sq (sq (rg (wY (ym z) z (wY (Y.lss_i z z) z ?_)))))))))
 refine nl (th ?_)
 rcases cnd h with ⟨c, h⟩ | ⟨c, h⟩
 ·refine WC.condT' z c (sq (rg (wY (ym z) z (wY (Y.sub_i z z) z (wY (Y.quo_i (by decide) z z) z (wY (Y.sub_i z z) z ?_))))))
  obtain ⟨m, d, h⟩ := lt1 h
  refine WL.yE (ya z) (congrArg vi d.symm) z (nl (th (rt (At.thenR ?_))))
  obtain rfl := some1 h
  have e : Stp [] (Lg.O0 (fun _ => False)) w (Lg.O0 (fun _ => False)) w := (sr_ _ _ _)
  exact At.res (.inl z) z (.tmp z .nil) ⟨z, (se_ e z z)⟩
 ·refine WC.condF' z c (sk (th (sq (rg (wY (ym z) z (wY (Y.quo_i (by decide) z z) z ?_))))))
  obtain ⟨n, j, h⟩ := lt1 h
  refine WL.yE (ya z) (congrArg vi j.symm) z (nl (th (rt ?_)))
  obtain rfl := some1 h
  have l : Stp [] (Lg.O0 (fun _ => False)) w (Lg.O0 (fun _ => False)) w := (sr_ _ _ _)
  exact At.res (.inl z) z (.tmp z .nil) ⟨z, (se_ l z z)⟩
theorem c_ref08_once {A : Nat → Prop} {v0_1 : Value} {a0 : api_Side} {w : World} (hs0_1 : Sl Rep.u w A v0_1 a0.Counts) {r0 : api_Side} (h : ref08_once a0 = some r0) : Rets Try.prog 84 [ag [vi a0.Offset, v0_1]] w (fun v w' => ∃ (aU : Value), v = ag [vi r0.Offset, aU] ∧ Ext w w' ∧ Sl Rep.u w' (fun k => w.heap.size ≤ k) aU r0.Counts) := by
 unfold ref08_once at h
 refine Rets.enter Try.func84 z z ?_
 have aW : Sl Rep.u w (imm (Lg.O0 A)) v0_1 a0.Counts := (Sl.start hs0_1)
 refine (show WC _ _ _ _ [(0, ag [vi a0.Offset, v0_1])] _ from ?_)
 refine sq (rg ?_)
 have cE := h
 obtain ⟨db, dc, dd, rfl⟩ := aW.shape
 have h := cE
 refine WL.box (O := (Lg.O0 A)) 11 [vi a0.Offset, (Value.slice db dc dd)] z z z ?_
 intro aH de dT aI cF
 refine WL.alloc (O := de) 12 [vi 0, Value.slice none 0 0] ty28 z z ?_
 intro H df dU J cG
 refine nl (th (sq (rg (WL.alloc (O := df) 13 [vi 0, Value.slice none 0 0] ty28 z z ?_))))
 intro m aX aY p cH
 refine nl (th (sq (sq (rg (wY (ya z) z (nl (th (WC.block ?_))))))))
 obtain ⟨cz, h, cI⟩ := flow1 h
 obtain ⟨cA, h⟩ := loop_some h
 refine WC.joinB 0 (σ := (Int × List UInt64 × Own × Value)) (fun x w' => cz = .go (x.1, x.2.1) ∧ Stp [13, 14, 15, 16, 1002, 1004] aX aY x.2.2.1 w' ∧ OwnSl 1008 Rep.u 25 x.2.2.1 w' x.2.2.2 x.2.1 ∧ Blk 13 x.2.2.1 w' m 28 [vi x.1, x.2.2.2]) (fun x => [(2, pt H 0), (3, pt m 0)]) ?_ ?_
 ·refine WC.loop (σ := (Int × List UInt64 × Int × Own × Value)) (fun x k w' => loopN k (ref08_once_lp1 a0) (x.1, x.2.1, x.2.2.1) = some cz ∧ Stp [13, 14, 15, 16, 1002, 1004] aX aY x.2.2.2.1 w' ∧ OwnSl 1004 Rep.u 25 x.2.2.2.1 w' x.2.2.2.2 x.2.1 ∧ Blk 13 x.2.2.2.1 w' m 28 [vi x.1, x.2.2.2.2]) (fun x => [(1, pt aH 0), (2, pt H 0), (3, pt m 0), (4, vi x.2.2.1)]) (0, [], 0, aX, Value.slice none 0 0) cA (.cons z (.cons z (.cons z (.cons z .nil)))) ⟨h, (sr_ _ _ _), (OwnSl.nil 1004 Rep.u 25), cH⟩ ?_
  rintro ⟨aa, dg, aJ, cC, cD⟩ cA cJ ⟨h, n, ap, aq⟩
  obtain ⟨dh, en, rfl, h, aZ⟩ := rnd1 h
  unfold ref08_once_lp1 at h
  try dsimp only at h n ap aq
  refine (show WC _ _ _ _ [(1, pt aH 0), (2, pt H 0), (3, pt m 0), (4, vi aJ)] _ from ?_)
  refine sq (sq (rg (wY (ym z) z (wY (yf fo28_1 z) z ?_))))
  have cK := cF.st J z
  have cL := cK.st p z
  have q := cL.st n z
  refine wY (yl ty26 z z (q.cell 1 _ z)) z ?_
  have cM := aW.i aI z z
  have cN := cM.i J z z
  have cO := cN.i p z z
  have K := cO.i n z z
  refine wY (Y.len ty26 z K) z (wY (Y.lss_i z z) z (nl (th ?_)))
  rcases cnd h with ⟨ar, h⟩ | ⟨ar, h⟩
  ·refine WC.condT' z ar (sk (th (sq ?_)))
   obtain ⟨di, h, cP⟩ := bnd h
   refine WC.join (σ := (Int × List UInt64 × Own × Value)) (fun x w' => (x.1, x.2.1) = di ∧ Stp [13, 14, 15, 1004] cC cJ x.2.2.1 w' ∧ OwnSl 1002 Rep.u 25 x.2.2.1 w' x.2.2.2 x.2.1 ∧ Blk 13 x.2.2.1 w' m 28 [vi x.1, x.2.2.2]) (fun x => [(1, pt aH 0), (2, pt H 0), (3, pt m 0), (4, vi aJ)]) ?_ ?_
   ·refine WC.block (sq (rg (wY (yf fo28_0 z) z (wY (yl ty3 z z (q.cell 0 _ z)) z (wY (ym z) z (wY (Y.add_i z z) z ?_))))))
    obtain ⟨aK, cQ, h⟩ := bnd h
    refine WL.call (vals := [vi (w64 (a0.Offset + aJ))]) kok106 z z (c_ref08_half cQ) ?_
    rintro dV dW ⟨rfl, cR⟩
    obtain ⟨ab, dj, dk, c⟩ := adoptE cC (fun k => 1) cR
    refine wY (ya z) z (nl (th (sq (rg (wY (yf fo28_1 z) z ?_)))))
    have e := aq.st c z
    refine wY (yl ty26 z z (e.cell 1 _ z)) z ?_
    have r := ap.st c z z z
    refine wY (Y.len ty26 z r.src.sl) z (wY (Y.eql_i z z) z (nl (th ?_)))
    rcases cnd h with ⟨au, h⟩ | ⟨au, h⟩
    ·refine WC.condT' z au (sq (rg (wY (ym z) z (wY (yf fo28_0 z) z (WL.store (v := vi aK) (cells' := [vi aK, cD]) ty3 z z e z (le_ z) z z ?_)))))
     intro dX L cS
     refine nl (th (rg (wY (yf fo28_1 z) z ?_)))
     have cT := q.st c z
     have cU := cT.st L z
     refine wY (yl ty26 z z (cU.cell 1 _ z)) z (wY (ym z) z ?_)
     obtain ⟨I, cV, h⟩ := bnd h
     have cW := K.i c z z
     have cX := cW.i L z z
     obtain ⟨eo, dl, dy, dY, cY, cZ, c0, av, bj, bk⟩ := Sl.at2 cX cV
     obtain rfl := bj
     replace av : CellsAt _ _ _ [vu I] := av
     have a1 := CAt.imm av bk
     refine wY (Y.indexAddr ty26 ty25 z cY z cZ c0) z (wY (yl ty25 z z a1.at_) z (WL.buildSlice (O := ab) (R := Rep.u) (vals := [(0, vu I)]) 14 [vu I] (xs := [I]) (by decide) ty26 ty25 (by decide) (by decide) (fe_ z) (by kernel_rfl) z ⟨[vu I], [], z, z, z⟩ z ?_))
     intro dZ d0 dz ac aL
     refine wY (yf fo28_1 z) z ?_
     have bl := h
     obtain ⟨aw, ax, ay, rfl⟩ := aL.shape
     have h := bl
     have bm := cS.st ac z
     refine WL.store (v := (Value.slice aw ax ay)) (cells' := [vi aK, (Value.slice aw ax ay)]) ty26 z z bm z (le_ z) z z ?_
     intro dA ad bn
     refine nl (At.inBlock ?_)
     have bo := aL.st ad z z z
     obtain ⟨c1, ae, bp⟩ := OwnSl.rlb 1002 rfl bo
     have bq := bn.st ae z
     exact At.join (σ := (Int × List UInt64 × Own × Value)) (aK, [I], c1, (Value.slice aw ax ay)) ⟨some1 h, (tr_ (su_ c z) (tr_ (su_ L z) (tr_ (su_ ac z) (tr_ (su_ ad z) (su_ ae z))))), bp, bq⟩ (.cons z (.cons z (.cons z (.cons z .nil))))
    ·refine WC.condF' z au (sq (rg (wY (ym z) z (wY (yf fo28_0 z) z (wY (yl ty3 z z (e.cell 0 _ z)) z (wY (yf fo28_1 z) z (wY (yl ty26 z z (e.cell 1 _ z)) z (wY (Y.len ty26 z r.src.sl) z (wY (Y.add_i z z) z ?_)))))))))
     refine wY (Y.sub_i z z) z (wY (Y.eql_i z z) z (nl (th ?_)))
     rcases cnd h with ⟨M, h⟩ | ⟨M, h⟩
     ·refine WC.condT' z M (sq (rg (wY (yf fo28_1 z) z (wY (yl ty26 z z (e.cell 1 _ z)) z (wY (Y.len ty26 z r.src.sl) z ?_)))))
      obtain ⟨dB, a2, h⟩ := lt1 h
      refine WL.yE (ya z) (congrArg vi a2.symm) z (nl (th (sq (WC.draw 12 ab fmix (by kernel_rfl) ?_))))
      intro dC j
      refine WS.y (yf fo28_1 z) z ?_
      have aM := e.st j z
      refine WS.y (yl ty26 z z (aM.cell 1 _ z)) z (WS.y (ym z) z (WS.y (Y.sub_i z z) z ?_))
      obtain ⟨c2, br, h⟩ := bnd h
      have P := r.st j z z z
      obtain ⟨d1, dm, dD, aN, bs, bt, Q, a3⟩ := OwnSl.at P br
      obtain rfl := a3
      replace Q : CellsAt _ _ _ [vu c2] := Q
      have a4 := CAt.own P aN Q
      refine WS.y (Y.indexAddr ty26 ty25 z aN z bs bt) z (WS.y (yl ty25 z z a4.at_) z (WS.y (yf fo28_1 z) z ?_))
      have bu := q.st c z
      have bw := bu.st j z
      refine WS.y (yl ty26 z z (bw.cell 1 _ z)) z (WS.y (ym z) z ?_)
      obtain ⟨c3, bx, h⟩ := bnd h
      have bz := K.i c z z
      have bA := bz.i j z z
      obtain ⟨d2, dn, dp, dE, bB, bC, bD, S, a5, bE⟩ := Sl.at2 bA bx
      obtain rfl := a5
      replace S : CellsAt _ _ _ [vu c3] := S
      have a6 := CAt.imm S bE
      refine WS.y (Y.indexAddr ty26 ty25 z bB z bC bD) z (WS.y (yl ty25 z z a6.at_) z (WS.y (Y.add_u z z) z (WS.tail ?_)))
      obtain ⟨l, az, h⟩ := lt1 h
      refine WL.yE (ya z) (congrArg vu az.symm) z (nl (th (rg (WL.buildSlice (O := ab) (R := Rep.u) (vals := []) 15 [] (xs := []) (by decide) ty26 ty25 (by decide) (by decide) (fe_ z) (by kernel_rfl) z z z ?_))))
      intro d3 d4 dF t bF
      refine wY (yf fo28_1 z) z ?_
      have aO := aM.st t z
      refine wY (yl ty26 z z (aO.cell 1 _ z)) z (wY (ym z) z (wY (Y.sub_i z z) z ?_))
      obtain ⟨d5, bG, h⟩ := bnd h
      have bH := P.st t z z z
      refine WL.sliceOwn ty26 ty25 z z z bH bG z ?_
      intro d6 bI
      obtain ⟨dG, a7, h⟩ := bnd h
      refine WL.append (by decide) ty26 ty25 z (by decide) z z bF bI.src a7 z ?_
      intro d7 c4 dH af bJ
      refine wY (ym z) z (WL.buildSlice (O := c4) (R := Rep.u) (vals := [(0, vu l)]) 16 [vu l] (xs := [l]) (by decide) ty26 ty25 (by decide) (by decide) (fe_ z) (by kernel_rfl) z ⟨[vu l], [], z, z, z⟩ z ?_)
      intro d8 d9 dI C bK
      obtain ⟨bL, a8, h⟩ := bnd h
      have bM := bJ.st C z z z
      refine WL.append (by decide) ty26 ty25 z (by decide) z z bM bK.src a8 z ?_
      intro ea eb dJ ah aP
      refine wY (yf fo28_1 z) z ?_
      have bO := h
      obtain ⟨aA, aC, aD, rfl⟩ := aP.shape
      have h := bO
      have bP := aO.st af z
      have bQ := bP.st C z
      have bR := bQ.st ah z
      refine WL.store (v := (Value.slice aA aC aD)) (cells' := [vi aa, (Value.slice aA aC aD)]) ty26 z z bR z (le_ z) z z ?_
      intro dK ai bS
      refine nl (At.inBlock ?_)
      have bT := aP.st ai z z z
      obtain ⟨c5, aj, bU⟩ := OwnSl.rlb 1002 rfl bT
      have bW := bS.st aj z
      exact At.join (σ := (Int × List UInt64 × Own × Value)) (aa, bL, c5, (Value.slice aA aC aD)) ⟨some1 h, (tr_ (su_ c z) (tr_ (su_ j z) (tr_ (su_ t z) (tr_ (su_ af z) (tr_ (su_ C z) (tr_ (su_ ah z) (tr_ (su_ ai z) (su_ aj z)))))))), bU, bW⟩ (.cons z (.cons z (.cons z (.cons z .nil))))
     ·refine WC.condF' z M (WC.drawH [1004] [0, 1, 2, 3, 4, 5, 6, 7, 8, 9] ab 11 fmix z (by kernel_rfl) ?_)
      intro dL d
      refine WD.y 0 z (by kernel_rfl) (fun _ _ _ => yf fo28_1 z) z (WD.y 1 z (by kernel_rfl) (fun dM ec a9 => have bX := e.st d z; have bY := bX.st a9 z; yl ty26 z z (bY.cell 1 _ z)) z (WD.y 2 z (by kernel_rfl) (fun _ _ _ => yf fo28_1 z) z (WD.y 3 z (by kernel_rfl) (fun dN ed ba => have bZ := q.st c z; have b0 := bZ.st d z; have b1 := b0.st ba z; yl ty26 z z (b1.cell 1 _ z)) z (WD.y 4 z (by kernel_rfl) (fun _ _ _ => ym z) z ?_))))
      obtain ⟨D, b2, h⟩ := bnd h
      have b3 := K.i c z z
      have b4 := b3.i d z z
      obtain ⟨ee, dr, ds, dO, b5, b6, b7, T, bb, b8⟩ := Sl.at2 b4 b2
      obtain rfl := bb
      replace T : CellsAt _ _ _ [vu D] := T
      have bc := CAt.imm T b8
      refine WD.y 5 z (by kernel_rfl) (fun _ _ _ => Y.indexAddr ty26 ty25 z b5 z b6 b7) z (WD.y 6 z (by kernel_rfl) (fun dP ef bd => have b9 := bc.st bd z; yl ty25 z z b9.at_) z (WD.heavy 7 z (by kernel_rfl) (WL.buildSlice (O := ab) (R := Rep.u) (vals := [(0, vu D)]) 17 [vu D] (xs := [D]) (by decide) ty26 ty25 (by decide) (by decide) (fe_ z) (by kernel_rfl) z ⟨[vu D], [], z, z, z⟩ z ?_)))
      intro eg eh dQ o ca
      refine nl (At.dq (su_ o z) (WD.heavy 8 z (by kernel_rfl) ?_))
      obtain ⟨cb, bf, h⟩ := bnd h
      have cc := r.st d z z z
      have cd := cc.st o z z z
      refine WL.append (by decide) ty26 ty25 z (by decide) z z cd ca.src bf z ?_
      intro ei ej dR F aQ
      refine nl (At.dq (su_ F z) (WD.y 9 z (by kernel_rfl) (fun _ _ _ => yf fo28_1 z) z (WD.phase [13] [0, 1, 2, 3, 4, 5, 6, 7, 8, 9, 10] (by kernel_rfl) (by kernel_rfl) (WD.heavy 10 z (by kernel_rfl) ?_))))
      have ce := h
      obtain ⟨p256, aE, aF, rfl⟩ := aQ.shape
      have h := ce
      have cf := e.st d z
      have cg := cf.st o z
      have ch := cg.st F z
      refine WL.store (v := (Value.slice p256 aE aF)) (cells' := [vi aa, (Value.slice p256 aE aF)]) ty26 z z ch z (le_ z) z z ?_
      intro dS G ci
      refine nl (At.dq (su_ G z) (WD.done_ (by kernel_rfl) (At.inBlock ?_)))
      have cj := aQ.st G z z z
      obtain ⟨c6, ak, ck⟩ := OwnSl.rlb 1002 rfl cj
      have cl := ci.st ak z
      exact At.join (σ := (Int × List UInt64 × Own × Value)) (aa, cb, c6, (Value.slice p256 aE aF)) ⟨some1 h, (tr_ (su_ c z) (tr_ (su_ d z) (tr_ (su_ o z) (tr_ (su_ F z) (tr_ (su_ G z) (su_ ak z)))))), ck, cl⟩ (.cons z (.cons z (.cons z (.cons z .nil))))
   ·rintro ⟨dt, du, ep, dw⟩ ek ⟨rfl, aR, bg, bh⟩
    replace h := cP
    try dsimp only at h aR bg bh
    refine (show At _ _ _ [(1, pt aH 0), (2, pt H 0), (3, pt m 0), (4, vi aJ)] _ from ?_)
    refine th (rg (wY (ym z) z (wY (Y.add_i z z) z ?_)))
    obtain ⟨c7, cm, h⟩ := lt1 h
    refine WL.yE (ya z) (congrArg vi cm.symm) z (nl ?_)
    obtain ⟨c8, al, cn⟩ := OwnSl.rlb 1004 rfl bg
    have co := bh.st al z
    exact At.round (dt, du, c7, c8, dw) dh (Nat.lt_succ_self _) ⟨next1 h aZ, (tr_ (su_ n z) (tr_ (su_ aR z) (su_ al z))), cn, co⟩ (.cons z (.cons z (.cons z (.cons z .nil))))
  ·refine WC.condF' z ar (WC.exit (At.thenX (At.loopX ?_)))
   obtain ⟨c9, am, cp⟩ := OwnSl.rlb 1008 rfl ap
   have cq := aq.st am z
   exact At.hitB (σ := (Int × List UInt64 × Own × Value)) (aa, dg, c9, cD) ⟨brk1 h aZ, (tr_ (su_ n z) (su_ am z)), cp, cq⟩ (.cons z (.cons z .nil))
 ·rintro ⟨aS, er, es, dx⟩ em ⟨rfl, U, aG, bi⟩
  replace h := flowK_go cI
  try dsimp only at h U aG bi
  refine (show At _ _ _ [(2, pt H 0), (3, pt m 0)] _ from ?_)
  refine At.inBlockHit (th (sq (rg (wY (yL ty28 z z (bi.cells 0 [vi aS, dx] z) z) z ?_))))
  have cr := h
  obtain ⟨V, W, Z, rfl⟩ := aG.shape
  have h := cr
  have cs := cG.st p z
  have ct := cs.st U z
  refine WL.store (v := ag [vi aS, (Value.slice V W Z)]) (cells' := [vi aS, (Value.slice V W Z)]) ty28 z z ct z (le_ z) z z ?_
  intro cu an cv
  refine nl (th (rt ?_))
  obtain rfl := some1 h
  have cw := aG.st an z z z
  obtain ⟨da, ao, cx⟩ := OwnSl.giveF rfl Flat.u cw
  have aT : Stp [12, 13, 14, 15, 16, 1002, 1004, 1008] (Lg.O0 A) w da cu := (tr_ (su_ aI z) (tr_ (su_ J z) (tr_ (su_ p z) (tr_ (su_ U z) (tr_ (su_ an z) (su_ ao z))))))
  have cy := cv.st ao z
  exact At.res (.inl z) z (.cell z (cy.runAg 0 [vi aS, (Value.slice V W Z)] ty28 z z z) .nil) ⟨(Value.slice V W Z), z, (se_ aT z z), (Sl.outF cx aT low0)⟩
theorem c_ref08_Down {A : Nat → Prop} {v0_3 : Value} {v0_5 : Value} {a0 : api_Hist} {a1 : Int} {w : World} (hs0_3 : Sl Rep.u w A v0_3 a0.Pos.Counts) (hs0_5 : Sl Rep.u w A v0_5 a0.Neg.Counts) {r0 : api_Hist} {r1 : Int} (h : ref08_Down a0 a1 = some (r0, r1)) : Rets Try.prog 54 [ag [vi a0.Scale, vu a0.Zero, vi a0.Pos.Offset, v0_3, vi a0.Neg.Offset, v0_5], vi a1] w (fun v w' => ∃ (b0 : Value) (b1 : Value), v = Value.tuple (List.toArray [ag [vi r0.Scale, vu r0.Zero, vi r0.Pos.Offset, b0, vi r0.Neg.Offset, b1], vi r1]) ∧ Ext w w' ∧ Sl Rep.u w' (fun k => w.heap.size ≤ k) b0 r0.Pos.Counts ∧ Sl Rep.u w' (fun k => w.heap.size ≤ k) b1 r0.Neg.Counts) := by
 unfold ref08_Down at h
 refine Rets.enter Try.func54 z z ?_
 have b2 : Sl Rep.u w (imm (Lg.O0 A)) v0_3 a0.Pos.Counts := (Sl.start hs0_3)
 have b3 : Sl Rep.u w (imm (Lg.O0 A)) v0_5 a0.Neg.Counts := (Sl.start hs0_5)
 refine (show WC _ _ _ _ [(0, ag [vi a0.Scale, vu a0.Zero, vi a0.Pos.Offset, v0_3, vi a0.Neg.Offset, v0_5]), (1, vi a1)] _ from ?_)
 refine sq (rg ?_)
 have ec := h
 obtain ⟨ar, au, av, rfl⟩ := b2.shape
 have h := ec
 have ed := h
 obtain ⟨V, W, Z, rfl⟩ := b3.shape
 have h := ed
 refine WL.box (O := (Lg.O0 A)) 11 [vi a0.Scale, vu a0.Zero, vi a0.Pos.Offset, (Value.slice ar au av), vi a0.Neg.Offset, (Value.slice V W Z)] z z z ?_
 intro eb fv fY r ee
 refine WL.alloc (O := fv) 12 [vi 0, vu 0, vi 0, Value.slice none 0 0, vi 0, Value.slice none 0 0] ty30 z z ?_
 intro o fw f0 n aW
 refine wY (ya z) z (nl (th (sq (sq (rg ?_)))))
 have T := ee.st n z
 refine wY (yL ty30 z z (T.cells 0 [vi a0.Scale, vu a0.Zero, vi a0.Pos.Offset, (Value.slice ar au av), vi a0.Neg.Offset, (Value.slice V W Z)] z) z) z ?_
 have ef := b2.i r z z
 have aX := ef.i n z z
 have eg := b3.i r z z
 have ax := eg.i n z z
 obtain ⟨gf, eh, h⟩ := bnd h
 refine WL.call (vals := [ag [vi a0.Scale, vu a0.Zero, vi a0.Pos.Offset, (Value.slice ar au av), vi a0.Neg.Offset, (Value.slice V W Z)]]) kok82 z z (c_ref08_Check (A := fun _ => True) (a0 := a0) (Sl.all aX) (Sl.all ax) eh) ?_
 rintro f1 ei ⟨rfl, ej⟩
 obtain ⟨aw, fx, fy, c⟩ := adoptE fw (fun k => 1) ej
 refine wY (ya z) z (nl (th (sq (rg (wY (ym z) z (wY (Y.neq_i z z) z (nl (th ?_))))))))
 rcases cnd h with ⟨aY, h⟩ | ⟨aY, h⟩
 ·refine WC.condT' z aY (sq (rg (wY (yb (vals := []) (cells := [vi 0, vu 0, vi 0, Value.slice none 0 0, vi 0, Value.slice none 0 0]) (fe_ z) (by kernel_rfl)) z (wY (ym z) z ?_))))
  have ek := aW.st c z
  refine WL.store (v := ag [vi 0, vu 0, vi 0, Value.slice none 0 0, vi 0, Value.slice none 0 0]) (cells' := [vi 0, vu 0, vi 0, Value.slice none 0 0, vi 0, Value.slice none 0 0]) ty30 z z ek z (le_ z) z z ?_
  intro em cl en
  refine wY (ya z) z (nl (th (rt (At.thenR ?_))))
  obtain ⟨rfl, rfl⟩ := tup2 h
  have eo : Stp [12] (Lg.O0 A) w aw em := (tr_ (su_ r z) (tr_ (su_ n z) (tr_ (su_ c z) (su_ cl z))))
  exact At.res (.inl z) z (.cell z (en.runAg 0 [vi 0, vu 0, vi 0, Value.slice none 0 0, vi 0, Value.slice none 0 0] ty30 z z z) (.tmp z .nil)) ⟨Value.slice none 0 0, Value.slice none 0 0, z, (se_ eo z z), (Or.inl ⟨z, z⟩), (Or.inl ⟨z, z⟩)⟩
 ·refine WC.condF' z aY (sk (th (sq (sq (rg (wY (ym z) z (wY (Y.lss_i z z) z (wY (ym z) z ?_))))))))
  refine WL.cut 6 (σ := Unit) (fun _ w' => ei = w') (fun _ => [(1, vi a1), (2, pt eb 0), (4, pt o 0), (23, vB ((decide (a1 < 0)) || (decide (w64 (a0.Scale - (-10)) < a1))))]) ?_ ?_
  ·refine WL.part 17 z (fun aZ => ?_) (fun aZ => ?_)
   ·refine WL.gS z z z z (WL.gS z z z z (WL.gS z z z z (WL.gS z z z z (WL.gS z z z z (wY (Y.pick (b := true) z z) z (WL.ren (v' := vB ((decide (a1 < 0)) || (decide (w64 (a0.Scale - (-10)) < a1)))) 23 z (congrArg vB (orT aZ)) ?_))))))
    exact nl (At.join () z (.cons z (.cons z (.cons z (.cons z .nil)))))
   ·refine ug z z (wY (ym z) z (ug z z (wY (yf fo30_0 z) z (ug z z ?_))))
    have ep := T.st c z
    refine wY (yl ty3 z z (ep.cell 0 _ z)) z (ug z z (wY (Y.sub_i z z) z (ug z z (wY (Y.gtr_i z z) z (wY (Y.pick (b := false) z z) z (WL.ren (v' := vB ((decide (a1 < 0)) || (decide (w64 (a0.Scale - (-10)) < a1)))) 23 z (congrArg vB (orF aZ)) ?_))))))
    exact nl (At.join () z (.cons z (.cons z (.cons z (.cons z .nil)))))
  ·rintro _ _ rfl
   refine (show WL _ _ _ _ _ [(1, vi a1), (2, pt eb 0), (4, pt o 0), (23, vB ((decide (a1 < 0)) || (decide (w64 (a0.Scale - (-10)) < a1))))] _ from ?_)
   refine nl (th ?_)
   rcases cnd h with ⟨a2, h⟩ | ⟨a2, h⟩
   ·refine WC.condT' z a2 (sq (rg (wY (yb (vals := []) (cells := [vi 0, vu 0, vi 0, Value.slice none 0 0, vi 0, Value.slice none 0 0]) (fe_ z) (by kernel_rfl)) z ?_)))
    have er := aW.st c z
    refine WL.store (v := ag [vi 0, vu 0, vi 0, Value.slice none 0 0, vi 0, Value.slice none 0 0]) (cells' := [vi 0, vu 0, vi 0, Value.slice none 0 0, vi 0, Value.slice none 0 0]) ty30 z z er z (le_ z) z z ?_
    intro es cm et
    refine wY (ya z) z (nl (th (rt (At.thenR ?_))))
    obtain ⟨rfl, rfl⟩ := tup2 h
    have eu : Stp [12] (Lg.O0 A) w aw es := (tr_ (su_ r z) (tr_ (su_ n z) (tr_ (su_ c z) (su_ cm z))))
    exact At.res (.inl z) z (.cell z (et.runAg 0 [vi 0, vu 0, vi 0, Value.slice none 0 0, vi 0, Value.slice none 0 0] ty30 z z z) (.tmp z .nil)) ⟨Value.slice none 0 0, Value.slice none 0 0, z, (se_ eu z z), (Or.inl ⟨z, z⟩), (Or.inl ⟨z, z⟩)⟩
   ·refine WC.condF' z a2 (sk (th (sq (WC.drawH [13, 14, 15, 1001] [0, 1, 2, 3, 4, 5, 6, 7, 8, 9, 10, 11] aw 13 fmix z (by kernel_rfl) ?_))))
    intro ew d
    refine WD.y 0 z (by kernel_rfl) (fun _ _ _ => yf fo30_0 z) z (WD.y 1 z (by kernel_rfl) (fun f2 gg cn => have ex := T.st c z; have ey := ex.st d z; have ez := ey.st cn z; yl ty3 z z (ez.cell 0 _ z)) z (WD.y 2 z (by kernel_rfl) (fun _ _ _ => yf fo30_1 z) z (WD.y 3 z (by kernel_rfl) (fun f3 gh co => have eA := T.st c z; have eB := eA.st d z; have eC := eB.st co z; yl ty25 z z (eC.cell 1 _ z)) z (WD.y 4 z (by kernel_rfl) (fun _ _ _ => yf fo30_2 z) z (WD.y 5 z (by kernel_rfl) (fun f4 gi cp => have eD := T.st c z; have eE := eD.st d z; have eF := eE.st cp z; yL ty28 z z (eF.cells 2 [vi a0.Pos.Offset, (Value.slice ar au av)] z) z) z (WD.y 7 z (by kernel_rfl) (fun _ _ _ => yf fo30_3 z) z (WD.y 8 z (by kernel_rfl) (fun f5 gj cq => have eG := T.st c z; have eH := eG.st d z; have eI := eH.st cq z; yL ty28 z z (eI.cells 4 [vi a0.Neg.Offset, (Value.slice V W Z)] z) z) z ?_)))))))
    obtain ⟨eJ, h, cr⟩ := bnd h
    refine WD.join (σ := (Int × List UInt64 × Int × List UInt64 × Own × Nat × Value × Value)) (f' := 1) [11, 10, 9, 8, 7, 6, 5, 4, 3, 2, 1, 0] (fun x O' w' => (x.1, x.2.1, x.2.2.1, x.2.2.2.1) = eJ ∧ Stp [13, 14, 15, 1001] aw ew x.2.2.2.2.1 w' ∧ Blk 1002 x.2.2.2.2.1 w' x.2.2.2.2.2.1 30 [vi 0, vu 0, vi 0, Value.slice none 0 0, vi 0, Value.slice none 0 0] ∧ Sl Rep.u w' (frs x.2.2.2.2.1) x.2.2.2.2.2.2.1 x.2.1 ∧ Sl Rep.u w' (frs x.2.2.2.2.1) x.2.2.2.2.2.2.2 x.2.2.2.1 ∧ x.2.2.2.2.1 = O') (fun x => [(1, vi a1), (4, pt o 0), (7, Value.pointer (some ⟨x.2.2.2.2.2.1, 0, none⟩)), (35, ag [vi a0.Scale, vu a0.Zero, vi x.1, x.2.2.2.2.2.2.1, vi x.2.2.1, x.2.2.2.2.2.2.2])]) (fun bx => ?_) ?_
    ·refine WD.heavy2 6 11 z z (by kernel_rfl) ?_ ?_
     ·have cs := aX.i c z z
      have ct := cs.i d z z
      obtain ⟨j, cu, h⟩ := bnd h
      refine WL.call (vals := [ag [vi a0.Pos.Offset, (Value.slice ar au av)]]) kok83 z z (c_ref08_Trim (A := fun _ => True) (a0 := a0.Pos) (Sl.all ct) cu) ?_
      rintro fz bz ⟨eK, rfl, cv, eL⟩
      obtain ⟨ay, fo, bS, t⟩ := adoptE aw (fun k => 1) cv
      have bA : Sl Rep.u bz (frs ay) eK j.Counts := Sl.adoptF eL (fun k hk => ⟨hk, z⟩) bS
      refine nl (At.dq (su_ t z) ?_)
      obtain ⟨eM, h, cw⟩ := bnd h
      refine WD.join (σ := (List UInt64 × Int × List UInt64 × Own × Nat × Value × Value)) (f' := 1) [11, 10, 9, 8, 7, 6, 5, 4, 3, 2, 1, 0] (fun x O' w' => (x.1, x.2.1, x.2.2.1) = eM ∧ Stp [13, 14] ay bz x.2.2.2.1 w' ∧ Blk 1001 x.2.2.2.1 w' x.2.2.2.2.1 30 [vi 0, vu 0, vi 0, Value.slice none 0 0, vi 0, Value.slice none 0 0] ∧ Sl Rep.u w' (frs x.2.2.2.1) x.2.2.2.2.2.1 x.1 ∧ Sl Rep.u w' (frs x.2.2.2.1) x.2.2.2.2.2.2 x.2.2.1 ∧ x.2.2.2.1 = O') (fun x => [(1, vi a1), (4, pt o 0), (7, Value.pointer (some ⟨x.2.2.2.2.1, 0, none⟩)), (35, ag [vi a0.Scale, vu a0.Zero, vi j.Offset, x.2.2.2.2.2.1, vi x.2.1, x.2.2.2.2.2.2])]) (fun bB => ?_) ?_
      ·refine WD.heavy2 9 11 z z (by kernel_rfl) ?_ ?_
       ·have cx := ax.i c z z
        have cy := cx.i d z z
        have cz := cy.i t z z
        obtain ⟨aa, cA, h⟩ := bnd h
        refine WL.call (vals := [ag [vi a0.Neg.Offset, (Value.slice V W Z)]]) kok83 z z (c_ref08_Trim (A := fun _ => True) (a0 := a0.Neg) (Sl.all cz) cA) ?_
        rintro fA cC ⟨eN, rfl, cD, eO⟩
        obtain ⟨b4, fp, bT, ab⟩ := adoptE ay (fun k => 1) cD
        have bC : Sl Rep.u cC (frs b4) eN aa.Counts := Sl.adoptF eO (fun k hk => ⟨hk, z⟩) bT
        refine nl (At.dq (su_ ab z) ?_)
        have bD := bA.f ab z
        have cE := h
        obtain ⟨a3, a4, a5, rfl⟩ := bD.shape
        have h := cE
        have cF := h
        obtain ⟨a6, a7, a8, rfl⟩ := bC.shape
        have h := cF
        refine WD.y 10 z (by kernel_rfl) (fun _ _ _ => yb (vals := [(0, vi a0.Scale), (1, vu a0.Zero), (2, ag [vi j.Offset, (Value.slice a3 a4 a5)]), (3, ag [vi aa.Offset, (Value.slice a6 a7 a8)])]) (cells := [vi a0.Scale, vu a0.Zero, vi j.Offset, (Value.slice a3 a4 a5), vi aa.Offset, (Value.slice a6 a7 a8)]) (fe_ z) (by kernel_rfl)) z (WD.heavy 11 z (by kernel_rfl) (WL.alloc (O := b4) 13 [vi 0, vu 0, vi 0, Value.slice none 0 0, vi 0, Value.slice none 0 0] ty30 z z ?_))
        intro eP f6 fB C cG
        refine nl (At.dq (su_ C z) ?_)
        obtain ⟨eQ, D, cH⟩ := Blk.rlb 1001 rfl cG
        have cI := bD.f C z
        have cJ := cI.f D z
        have cK := bC.f C z
        have cL := cK.f D z
        refine WD.own (su_ D z) (WD.perm _ [11, 10, 9, 8, 7, 6, 5, 4, 3, 2, 1, 0] (by kernel_rfl) ?_)
        exact bB (j.Counts, aa.Offset, aa.Counts, eQ, eP, (Value.slice a3 a4 a5), (Value.slice a6 a7 a8)) _ _ _ ⟨some1 h, (tr_ (su_ ab z) (tr_ (su_ C z) (su_ D z))), cH, cJ, cL, z⟩ (.cons z (.cons z (.cons z (.cons z .nil))))
       ·try simp only [Option.bind_assoc] at h
        try simp only [Option.bind_some] at h
        refine WL.alloc (O := ay) 14 [vi 0, vu 0, vi 0, Value.slice none 0 0, vi 0, Value.slice none 0 0] ty30 z z ?_
        intro eR eS fC F cM
        refine nl (At.dq (su_ F z) (WD.heavy 9 z (by kernel_rfl) ?_))
        have cN := ax.i c z z
        have cO := cN.i d z z
        have cP := cO.i t z z
        have cQ := cP.i F z z
        obtain ⟨ac, cR, h⟩ := bnd h
        refine WL.call (vals := [ag [vi a0.Neg.Offset, (Value.slice V W Z)]]) kok83 z z (c_ref08_Trim (A := fun _ => True) (a0 := a0.Neg) (Sl.all cQ) cR) ?_
        rintro fD cS ⟨eT, rfl, cT, eU⟩
        obtain ⟨eV, fq, bU, G⟩ := adoptE eS (fun k => 1) cT
        have bE : Sl Rep.u cS (frs eV) eT ac.Counts := Sl.adoptF eU (fun k hk => ⟨hk, z⟩) bU
        refine nl (At.dq (su_ G z) ?_)
        have cU := bA.f F z
        have bF := cU.f G z
        have cV := h
        obtain ⟨a9, ba, bb, rfl⟩ := bF.shape
        have h := cV
        have cW := h
        obtain ⟨bc, bd, bf, rfl⟩ := bE.shape
        have h := cW
        refine WD.y 10 z (by kernel_rfl) (fun _ _ _ => yb (vals := [(0, vi a0.Scale), (1, vu a0.Zero), (2, ag [vi j.Offset, (Value.slice a9 ba bb)]), (3, ag [vi ac.Offset, (Value.slice bc bd bf)])]) (cells := [vi a0.Scale, vu a0.Zero, vi j.Offset, (Value.slice a9 ba bb), vi ac.Offset, (Value.slice bc bd bf)]) (fe_ z) (by kernel_rfl)) z ?_
        have cX := cM.st G z
        obtain ⟨eW, H, cY⟩ := Blk.rlb 1001 rfl cX
        have cZ := bF.f H z
        have c0 := bE.f H z
        refine WD.own (su_ H z) (WD.perm _ [11, 10, 9, 8, 7, 6, 5, 4, 3, 2, 1, 0] (by kernel_rfl) ?_)
        exact bB (j.Counts, ac.Offset, ac.Counts, eW, eR, (Value.slice a9 ba bb), (Value.slice bc bd bf)) _ _ _ ⟨some1 h, (tr_ (su_ F z) (tr_ (su_ G z) (su_ H z))), cY, cZ, c0, z⟩ (.cons z (.cons z (.cons z (.cons z .nil))))
      ·rintro ⟨eX, b5, eY, f7, b6, b7, b8⟩ _ fF ⟨rfl, aU, bG, bH, bI, rfl⟩
       replace h := cw
       try dsimp only at h aU bG bH bI
       refine (show WD _ _ _ _ _ _ _ _ [(1, vi a1), (4, pt o 0), (7, pt b6 0), (35, ag [vi a0.Scale, vu a0.Zero, vi j.Offset, b7, vi b5, b8])] _ _ from ?_)
       obtain ⟨eZ, I, c1⟩ := Blk.rlb 1002 rfl bG
       have c2 := bH.f I z
       have c3 := bI.f I z
       refine WD.own (su_ I z) (WD.perm _ [11, 10, 9, 8, 7, 6, 5, 4, 3, 2, 1, 0] (by kernel_rfl) ?_)
       exact bx (j.Offset, eX, b5, eY, eZ, b6, b7, b8) _ _ _ ⟨some1 h, (tr_ (su_ t z) (tr_ (su_ aU z) (su_ I z))), c1, c2, c3, z⟩ (.cons z (.cons z (.cons z (.cons z .nil))))
     ·try simp only [Option.bind_assoc] at h
      try simp only [Option.bind_some] at h
      refine WL.alloc (O := aw) 15 [vi 0, vu 0, vi 0, Value.slice none 0 0, vi 0, Value.slice none 0 0] ty30 z z ?_
      intro e0 e1 fG J c4
      refine nl (At.dq (su_ J z) (WD.heavy 6 z (by kernel_rfl) ?_))
      have c5 := aX.i c z z
      have c6 := c5.i d z z
      have c7 := c6.i J z z
      obtain ⟨ad, c8, h⟩ := bnd h
      refine WL.call (vals := [ag [vi a0.Pos.Offset, (Value.slice ar au av)]]) kok83 z z (c_ref08_Trim (A := fun _ => True) (a0 := a0.Pos) (Sl.all c7) c8) ?_
      rintro fH c9 ⟨e2, rfl, da, e5⟩
      obtain ⟨b9, fr, bW, K⟩ := adoptE e1 (fun k => 1) da
      have db : Sl Rep.u c9 (frs b9) e2 ad.Counts := Sl.adoptF e5 (fun k hk => ⟨hk, z⟩) bW
      refine nl (At.dq (su_ K z) (WD.heavy 9 z (by kernel_rfl) ?_))
      have dc := ax.i c z z
      have dd := dc.i d z z
      have de := dd.i J z z
      have df := de.i K z z
      obtain ⟨ae, dg, h⟩ := bnd h
      refine WL.call (vals := [ag [vi a0.Neg.Offset, (Value.slice V W Z)]]) kok83 z z (c_ref08_Trim (A := fun _ => True) (a0 := a0.Neg) (Sl.all df) dg) ?_
      rintro fI dh ⟨e6, rfl, di, e7⟩
      obtain ⟨e8, fs, bX, L⟩ := adoptE b9 (fun k => 1) di
      have bJ : Sl Rep.u dh (frs e8) e6 ae.Counts := Sl.adoptF e7 (fun k hk => ⟨hk, z⟩) bX
      refine nl (At.dq (su_ L z) ?_)
      have bK := db.f L z
      have dj := h
      obtain ⟨bg, bh, bi, rfl⟩ := bK.shape
      have h := dj
      have dk := h
      obtain ⟨bj, bk, bl, rfl⟩ := bJ.shape
      have h := dk
      refine WD.y 10 z (by kernel_rfl) (fun _ _ _ => yb (vals := [(0, vi a0.Scale), (1, vu a0.Zero), (2, ag [vi ad.Offset, (Value.slice bg bh bi)]), (3, ag [vi ae.Offset, (Value.slice bj bk bl)])]) (cells := [vi a0.Scale, vu a0.Zero, vi ad.Offset, (Value.slice bg bh bi), vi ae.Offset, (Value.slice bj bk bl)]) (fe_ z) (by kernel_rfl)) z ?_
      have dl := c4.st K z
      have dm := dl.st L z
      obtain ⟨e9, M, dn⟩ := Blk.rlb 1002 rfl dm
      have dp := bK.f M z
      have dr := bJ.f M z
      refine WD.own (su_ M z) (WD.perm _ [11, 10, 9, 8, 7, 6, 5, 4, 3, 2, 1, 0] (by kernel_rfl) ?_)
      exact bx (ad.Offset, ad.Counts, ae.Offset, ae.Counts, e9, e0, (Value.slice bg bh bi), (Value.slice bj bk bl)) _ _ _ ⟨some1 h, (tr_ (su_ J z) (tr_ (su_ K z) (tr_ (su_ L z) (su_ M z)))), dn, dp, dr, z⟩ (.cons z (.cons z (.cons z (.cons z .nil))))
    ·rintro ⟨bL, fa, az, fb, bm, af, fc, fd⟩ _ fJ ⟨rfl, ah, ca, aA, aC, rfl⟩
     replace h := cr
     try dsimp only at h ah ca aA aC
     refine (show WD _ _ _ _ _ _ _ _ [(1, vi a1), (4, pt o 0), (7, pt af 0), (35, ag [vi a0.Scale, vu a0.Zero, vi bL, fc, vi az, fd])] _ _ from ?_)
     refine WD.phase [1002] [0, 1, 2, 3, 4, 5, 6, 7, 8, 9, 10, 11, 12] (by kernel_rfl) (by kernel_rfl) (WD.heavy 12 z (by kernel_rfl) ?_)
     have ds := h
     obtain ⟨bn, bo, bp, rfl⟩ := aA.shape
     have h := ds
     have dt := h
     obtain ⟨bq, br, bs, rfl⟩ := aC.shape
     have h := dt
     refine WL.store (v := ag [vi a0.Scale, vu a0.Zero, vi bL, (Value.slice bn bo bp), vi az, (Value.slice bq br bs)]) (cells' := [vi a0.Scale, vu a0.Zero, vi bL, (Value.slice bn bo bp), vi az, (Value.slice bq br bs)]) ty30 z z ca z (le_ z) z z ?_
     intro bM m du
     refine nl (At.dq (su_ m z) (WD.done_ (by kernel_rfl) (th (sq (sq (rg (wY (ya z) z (nl (th ?_)))))))))
     refine WC.block ?_
     obtain ⟨cb, h, dw⟩ := flow1 h
     obtain ⟨cc, h⟩ := loop_some h
     refine WC.joinB 0 (σ := (Int × Int × List UInt64 × Int × List UInt64 × Own × Value × Value)) (fun x w' => cb = .go (x.1, x.2.1, x.2.2.1, x.2.2.2.1, x.2.2.2.2.1) ∧ Stp [1002] bm bM x.2.2.2.2.2.1 w' ∧ Sl Rep.u w' (frs x.2.2.2.2.2.1) x.2.2.2.2.2.2.1 x.2.2.1 ∧ Sl Rep.u w' (frs x.2.2.2.2.2.1) x.2.2.2.2.2.2.2 x.2.2.2.2.1 ∧ Blk 1002 x.2.2.2.2.2.1 w' af 30 [vi x.1, vu a0.Zero, vi x.2.1, x.2.2.2.2.2.2.1, vi x.2.2.2.1, x.2.2.2.2.2.2.2]) (fun x => [(4, pt o 0), (7, pt af 0)]) ?_ ?_
     ·have dx := aA.f m z
      have dy := aC.f m z
      refine WC.loop (σ := (Int × Int × List UInt64 × Int × List UInt64 × Int × Own × Value × Value)) (fun x k w' => loopN k (ref08_Down_lp1 a1) (x.1, x.2.1, x.2.2.1, x.2.2.2.1, x.2.2.2.2.1, x.2.2.2.2.2.1) = some cb ∧ Stp [1002] bm bM x.2.2.2.2.2.2.1 w' ∧ Sl Rep.u w' (frs x.2.2.2.2.2.2.1) x.2.2.2.2.2.2.2.1 x.2.2.1 ∧ Sl Rep.u w' (frs x.2.2.2.2.2.2.1) x.2.2.2.2.2.2.2.2 x.2.2.2.2.1 ∧ Blk 1002 x.2.2.2.2.2.2.1 w' af 30 [vi x.1, vu a0.Zero, vi x.2.1, x.2.2.2.2.2.2.2.1, vi x.2.2.2.1, x.2.2.2.2.2.2.2.2]) (fun x => [(1, vi a1), (4, pt o 0), (7, pt af 0), (8, vi x.2.2.2.2.2.1)]) (a0.Scale, bL, fa, az, fb, 0, bm, (Value.slice bn bo bp), (Value.slice bq br bs)) cc (.cons z (.cons z (.cons z (.cons z .nil)))) ⟨h, (sr_ _ _ _), dx, dy, du⟩ ?_
      rintro ⟨U, aD, cd, aE, ce, fe, bt, bu, bw⟩ cc fK ⟨h, ai, aF, aG, l⟩
      obtain ⟨ff, f8, rfl, h, bO⟩ := rnd1 h
      unfold ref08_Down_lp1 at h
      try dsimp only at h ai aF aG l
      refine (show WC _ _ _ _ [(1, vi a1), (4, pt o 0), (7, pt af 0), (8, vi fe)] _ from ?_)
      refine sq (sq (rg (wY (ym z) z (wY (ym z) z (wY (Y.lss_i z z) z (nl (th ?_)))))))
      rcases cnd h with ⟨aH, h⟩ | ⟨aH, h⟩
      ·refine WC.condT' z aH (sk (th (sq (WC.block (WC.drawH [] [0, 1, 2, 3, 4, 5, 6, 7, 8, 9, 10, 11] bt 13 fmix z (by kernel_rfl) ?_)))))
       intro fL e
       refine WD.y 0 z (by kernel_rfl) (fun _ _ _ => yf fo30_0 z) z (WD.y 1 z (by kernel_rfl) (fun fN f9 cf => have dz := l.st e z; have dA := dz.st cf z; yl ty3 z z (dA.cell 0 _ z)) z (WD.y 2 z (by kernel_rfl) (fun _ _ _ => Y.sub_i z z) z (WD.y 3 z (by kernel_rfl) (fun _ _ _ => yf fo30_1 z) z (WD.y 4 z (by kernel_rfl) (fun fO ga cg => have dB := l.st e z; have dC := dB.st cg z; yl ty25 z z (dC.cell 1 _ z)) z (WD.y 5 z (by kernel_rfl) (fun _ _ _ => yf fo30_2 z) z (WD.y 6 z (by kernel_rfl) (fun fP gb ch => have dD := l.st e z; have dE := dD.st ch z; yL ty28 z z (dE.cells 2 [vi aD, bu] z) z) z (WD.y 8 z (by kernel_rfl) (fun _ _ _ => yf fo30_3 z) z (WD.y 9 z (by kernel_rfl) (fun fQ gc ci => have dF := l.st e z; have dG := dF.st ci z; yL ty28 z z (dG.cells 4 [vi aE, bw] z) z) z (WD.heavy 7 z (by kernel_rfl) ?_)))))))))
       have dH := aF.f e z
       obtain ⟨p, dI, h⟩ := bnd h
       refine WL.call (vals := [ag [vi aD, bu]]) kok84 z z (c_ref08_once (A := fun _ => True) (a0 := (api_Side.mk aD cd)) (Sl.all dH) dI) ?_
       rintro fR dJ ⟨fg, rfl, dK, fh⟩
       obtain ⟨cj, ft, bY, P⟩ := adoptE bt (fun k => 1) dK
       have dL : Sl Rep.u dJ (frs cj) fg p.Counts := Sl.adoptF fh (fun k hk => ⟨hk, z⟩) bY
       refine nl (At.dq (su_ P z) (WD.heavy 10 z (by kernel_rfl) ?_))
       have dM := aG.f e z
       have dN := dM.f P z
       obtain ⟨q, dO, h⟩ := bnd h
       refine WL.call (vals := [ag [vi aE, bw]]) kok84 z z (c_ref08_once (A := fun _ => True) (a0 := (api_Side.mk aE ce)) (Sl.all dN) dO) ?_
       rintro fT dP ⟨fi, rfl, dQ, fj⟩
       obtain ⟨ck, fu, bZ, Q⟩ := adoptE cj (fun k => 1) dQ
       have bP : Sl Rep.u dP (frs ck) fi q.Counts := Sl.adoptF fj (fun k hk => ⟨hk, z⟩) bZ
       refine nl (At.dq (su_ Q z) ?_)
       have bQ := dL.f Q z
       have dR := h
       obtain ⟨aj, ak, al, rfl⟩ := bQ.shape
       have h := dR
       have dS := h
       obtain ⟨am, an, ao, rfl⟩ := bP.shape
       have h := dS
       refine WD.y 11 z (by kernel_rfl) (fun _ _ _ => yb (vals := [(0, vi (w64 (U - 1))), (1, vu a0.Zero), (2, ag [vi p.Offset, (Value.slice aj ak al)]), (3, ag [vi q.Offset, (Value.slice am an ao)])]) (cells := [vi (w64 (U - 1)), vu a0.Zero, vi p.Offset, (Value.slice aj ak al), vi q.Offset, (Value.slice am an ao)]) (fe_ z) (by kernel_rfl)) z (WD.phase [1002] [0, 1, 2, 3, 4, 5, 6, 7, 8, 9, 10, 11, 12] (by kernel_rfl) (by kernel_rfl) (WD.heavy 12 z (by kernel_rfl) ?_))
       have dT := l.st e z
       have dU := dT.st P z
       have dV := dU.st Q z
       refine WL.store (v := ag [vi (w64 (U - 1)), vu a0.Zero, vi p.Offset, (Value.slice aj ak al), vi q.Offset, (Value.slice am an ao)]) (cells' := [vi (w64 (U - 1)), vu a0.Zero, vi p.Offset, (Value.slice aj ak al), vi q.Offset, (Value.slice am an ao)]) ty30 z z dV z (le_ z) z z ?_
       intro fU S dW
       refine nl (At.dq (su_ S z) (WD.done_ (by kernel_rfl) (At.inBlock (th (rg (wY (ym z) z (wY (Y.add_i z z) z ?_)))))))
       obtain ⟨fk, dX, h⟩ := lt1 h
       refine WL.yE (ya z) (congrArg vi dX.symm) z (nl ?_)
       have dY := bQ.f S z
       have dZ := bP.f S z
       exact At.round (w64 (U - 1), p.Offset, p.Counts, q.Offset, q.Counts, fk, ck, (Value.slice aj ak al), (Value.slice am an ao)) ff (Nat.lt_succ_self _) ⟨next1 h bO, (tr_ (su_ ai z) (tr_ (su_ e z) (tr_ (su_ P z) (tr_ (su_ Q z) (su_ S z))))), dY, dZ, dW⟩ (.cons z (.cons z (.cons z (.cons z .nil))))
      ·refine WC.condF' z aH (WC.exit (At.thenX (At.loopX ?_)))
       exact At.hitB (σ := (Int × Int × List UInt64 × Int × List UInt64 × Own × Value × Value)) (U, aD, cd, aE, ce, bt, bu, bw) ⟨brk1 h bO, (su_ ai z), aF, aG, l⟩ (.cons z (.cons z .nil))
     ·rintro ⟨aI, aJ, gd, aK, ge, fl, fm, fn⟩ fV ⟨rfl, ap, aL, aM, bR⟩
      replace h := flowK_go dw
      try dsimp only at h ap aL aM bR
      refine (show At _ _ _ [(4, pt o 0), (7, pt af 0)] _ from ?_)
      refine At.inBlockHit (th (sq (rg (wY (yL ty30 z z (bR.cells 0 [vi aI, vu a0.Zero, vi aJ, fm, vi aK, fn] z) z) z ?_))))
      have d0 := h
      obtain ⟨aN, aO, aP, rfl⟩ := aL.shape
      have h := d0
      have d1 := h
      obtain ⟨aQ, aR, aS, rfl⟩ := aM.shape
      have h := d1
      have d2 := aW.st c z
      have d3 := d2.st d z
      have d4 := d3.st ah z
      have d5 := d4.st m z
      have d6 := d5.st ap z
      refine WL.store (v := ag [vi aI, vu a0.Zero, vi aJ, (Value.slice aN aO aP), vi aK, (Value.slice aQ aR aS)]) (cells' := [vi aI, vu a0.Zero, vi aJ, (Value.slice aN aO aP), vi aK, (Value.slice aQ aR aS)]) ty30 z z d6 z (le_ z) z z ?_
      intro d7 aq d8
      refine wY (ya z) z (nl (th (rt ?_)))
      obtain ⟨rfl, rfl⟩ := tup2 h
      have aT : Stp [12, 13, 14, 15, 1001, 1002] (Lg.O0 A) w fl d7 := (tr_ (su_ r z) (tr_ (su_ n z) (tr_ (su_ c z) (tr_ (su_ d z) (tr_ (su_ ah z) (tr_ (su_ m z) (tr_ (su_ ap z) (su_ aq z))))))))
      have d9 := aL.f aq z
      have ea := aM.f aq z
      exact At.res (.inl z) z (.cell z (d8.runAg 0 [vi aI, vu a0.Zero, vi aJ, (Value.slice aN aO aP), vi aK, (Value.slice aQ aR aS)] ty30 z z z) (.tmp z .nil)) ⟨(Value.slice aN aO aP), (Value.slice aQ aR aS), z, (se_ aT z z), (Sl.outF d9 aT low0), (Sl.outF ea aT low0)⟩
theorem c_ref09_Level {A : Nat → Prop} {v0_3 : Value} {v0_5 : Value} {a0 : api_Hist} {v1_3 : Value} {v1_5 : Value} {a1 : api_Hist} {w : World} (hs0_3 : Sl Rep.u w A v0_3 a0.Pos.Counts) (hs0_5 : Sl Rep.u w A v0_5 a0.Neg.Counts) (hs1_3 : Sl Rep.u w A v1_3 a1.Pos.Counts) (hs1_5 : Sl Rep.u w A v1_5 a1.Neg.Counts) {r0 : ref09_Pair} (h : ref09_Level a0 a1 = some r0) : Rets Try.prog 53 [ag [vi a0.Scale, vu a0.Zero, vi a0.Pos.Offset, v0_3, vi a0.Neg.Offset, v0_5], ag [vi a1.Scale, vu a1.Zero, vi a1.Pos.Offset, v1_3, vi a1.Neg.Offset, v1_5]] w (fun v w' => ∃ (aI : Value) (aJ : Value) (aK : Value) (ay : Value), v = ag [vi r0.X.Scale, vu r0.X.Zero, vi r0.X.Pos.Offset, aI, vi r0.X.Neg.Offset, aJ, vi r0.Y.Scale, vu r0.Y.Zero, vi r0.Y.Pos.Offset, aK, vi r0.Y.Neg.Offset, ay, vi r0.E] ∧ Ext w w' ∧ Sl Rep.u w' (fun k => w.heap.size ≤ k) aI r0.X.Pos.Counts ∧ Sl Rep.u w' (fun k => w.heap.size ≤ k) aJ r0.X.Neg.Counts ∧ Sl Rep.u w' (fun k => w.heap.size ≤ k) aK r0.Y.Pos.Counts ∧ Sl Rep.u w' (fun k => w.heap.size ≤ k) ay r0.Y.Neg.Counts) := by
 unfold ref09_Level at h
 refine Rets.enter Try.func53 z z ?_
 have aL : Sl Rep.u w (imm (Lg.O0 A)) v0_3 a0.Pos.Counts := (Sl.start hs0_3)
 have aM : Sl Rep.u w (imm (Lg.O0 A)) v0_5 a0.Neg.Counts := (Sl.start hs0_5)
 have b6 : Sl Rep.u w (imm (Lg.O0 A)) v1_3 a1.Pos.Counts := (Sl.start hs1_3)
 have b7 : Sl Rep.u w (imm (Lg.O0 A)) v1_5 a1.Neg.Counts := (Sl.start hs1_5)
 refine (show WC _ _ _ _ [(0, ag [vi a0.Scale, vu a0.Zero, vi a0.Pos.Offset, v0_3, vi a0.Neg.Offset, v0_5]), (1, ag [vi a1.Scale, vu a1.Zero, vi a1.Pos.Offset, v1_3, vi a1.Neg.Offset, v1_5])] _ from ?_)
 refine sq (rg ?_)
 have b8 := h
 obtain ⟨aa, ab, ac, rfl⟩ := aL.shape
 have h := b8
 have b9 := h
 obtain ⟨ad, ae, af, rfl⟩ := aM.shape
 have h := b9
 refine WL.box (O := (Lg.O0 A)) 11 [vi a0.Scale, vu a0.Zero, vi a0.Pos.Offset, (Value.slice aa ab ac), vi a0.Neg.Offset, (Value.slice ad ae af)] z z z ?_
 intro b1 cR c5 r ca
 have aN := b6.i r z z
 have cb := h
 obtain ⟨ah, ai, aj, rfl⟩ := aN.shape
 have h := cb
 have aO := b7.i r z z
 have cc := h
 obtain ⟨ak, al, am, rfl⟩ := aO.shape
 have h := cc
 refine WL.box (O := cR) 12 [vi a1.Scale, vu a1.Zero, vi a1.Pos.Offset, (Value.slice ah ai aj), vi a1.Neg.Offset, (Value.slice ak al am)] z z z ?_
 intro b2 cS c6 q cd
 refine WL.alloc (O := cS) 13 [vi 0, vu 0, vi 0, Value.slice none 0 0, vi 0, Value.slice none 0 0, vi 0, vu 0, vi 0, Value.slice none 0 0, vi 0, Value.slice none 0 0, vi 0] ty83 z z ?_
 intro b3 cT c7 l ap
 refine nl (th (sq (sq (rg ?_))))
 have ce := ca.st q z
 have aP := ce.st l z
 refine wY (yL ty30 z z (aP.cells 0 [vi a0.Scale, vu a0.Zero, vi a0.Pos.Offset, (Value.slice aa ab ac), vi a0.Neg.Offset, (Value.slice ad ae af)] z) z) z ?_
 have cf := aL.i r z z
 have cg := cf.i q z z
 have aQ := cg.i l z z
 have ch := aM.i r z z
 have ci := ch.i q z z
 have aR := ci.i l z z
 obtain ⟨an, cj, h⟩ := bnd h
 refine WL.call (vals := [ag [vi a0.Scale, vu a0.Zero, vi a0.Pos.Offset, (Value.slice aa ab ac), vi a0.Neg.Offset, (Value.slice ad ae af)]]) kok82 z z (c_ref08_Check (A := fun _ => True) (a0 := a0) (Sl.all aQ) (Sl.all aR) cj) ?_
 rintro c8 c9 ⟨rfl, ck⟩
 obtain ⟨b4, cU, cV, e⟩ := adoptE cT (fun k => 1) ck
 refine wY (ya z) z (nl (th (sq (rg (wY (ym z) z (wY (Y.neq_i z z) z (nl (th ?_))))))))
 rcases cnd h with ⟨aq, h⟩ | ⟨aq, h⟩
 ·refine WC.condT' z aq (sq (rg (wY (ym z) z (wY (yb (vals := [(2, vi an)]) (cells := [vi 0, vu 0, vi 0, Value.slice none 0 0, vi 0, Value.slice none 0 0, vi 0, vu 0, vi 0, Value.slice none 0 0, vi 0, Value.slice none 0 0, vi an]) (fe_ z) (by kernel_rfl)) z ?_))))
  have cl := ap.st e z
  refine WL.store (v := ag [vi 0, vu 0, vi 0, Value.slice none 0 0, vi 0, Value.slice none 0 0, vi 0, vu 0, vi 0, Value.slice none 0 0, vi 0, Value.slice none 0 0, vi an]) (cells' := [vi 0, vu 0, vi 0, Value.slice none 0 0, vi 0, Value.slice none 0 0, vi 0, vu 0, vi 0, Value.slice none 0 0, vi 0, Value.slice none 0 0, vi an]) ty83 z z cl z (le_ z) z z ?_
  intro cm aW cn
  refine nl (th (rt (At.thenR ?_)))
  obtain rfl := some1 h
  have co : Stp [13] (Lg.O0 A) w b4 cm := (tr_ (su_ r z) (tr_ (su_ q z) (tr_ (su_ l z) (tr_ (su_ e z) (su_ aW z)))))
  exact At.res (.inl z) z (.cell z (cn.runAg 0 [vi 0, vu 0, vi 0, Value.slice none 0 0, vi 0, Value.slice none 0 0, vi 0, vu 0, vi 0, Value.slice none 0 0, vi 0, Value.slice none 0 0, vi an] ty83 z z z) .nil) ⟨Value.slice none 0 0, Value.slice none 0 0, Value.slice none 0 0, Value.slice none 0 0, z, (se_ co z z), (Or.inl ⟨z, z⟩), (Or.inl ⟨z, z⟩), (Or.inl ⟨z, z⟩), (Or.inl ⟨z, z⟩)⟩
 ·refine WC.condF' z aq (sk (th (sq (sq (rg ?_)))))
  have cp := cd.st l z
  have ar := cp.st e z
  refine wY (yL ty30 z z (ar.cells 0 [vi a1.Scale, vu a1.Zero, vi a1.Pos.Offset, (Value.slice ah ai aj), vi a1.Neg.Offset, (Value.slice ak al am)] z) z) z ?_
  have cq := aN.i q z z
  have cr := cq.i l z z
  have aS := cr.i e z z
  have cs := aO.i q z z
  have ct := cs.i l z z
  have aT := ct.i e z z
  obtain ⟨ao, cu, h⟩ := bnd h
  refine WL.call (vals := [ag [vi a1.Scale, vu a1.Zero, vi a1.Pos.Offset, (Value.slice ah ai aj), vi a1.Neg.Offset, (Value.slice ak al am)]]) kok82 z z (c_ref08_Check (A := fun _ => True) (a0 := a1) (Sl.all aS) (Sl.all aT) cu) ?_
  rintro da cv ⟨rfl, cw⟩
  obtain ⟨b5, cW, cX, j⟩ := adoptE b4 (fun k => 1) cw
  refine wY (ya z) z (nl (th (sq (rg (wY (ym z) z (wY (Y.neq_i z z) z (nl (th ?_))))))))
  rcases cnd h with ⟨au, h⟩ | ⟨au, h⟩
  ·refine WC.condT' z au (sq (rg (wY (ym z) z (wY (yb (vals := [(2, vi ao)]) (cells := [vi 0, vu 0, vi 0, Value.slice none 0 0, vi 0, Value.slice none 0 0, vi 0, vu 0, vi 0, Value.slice none 0 0, vi 0, Value.slice none 0 0, vi ao]) (fe_ z) (by kernel_rfl)) z ?_))))
   have cx := ap.st e z
   have cy := cx.st j z
   refine WL.store (v := ag [vi 0, vu 0, vi 0, Value.slice none 0 0, vi 0, Value.slice none 0 0, vi 0, vu 0, vi 0, Value.slice none 0 0, vi 0, Value.slice none 0 0, vi ao]) (cells' := [vi 0, vu 0, vi 0, Value.slice none 0 0, vi 0, Value.slice none 0 0, vi 0, vu 0, vi 0, Value.slice none 0 0, vi 0, Value.slice none 0 0, vi ao]) ty83 z z cy z (le_ z) z z ?_
   intro cz aX cA
   refine nl (th (rt (At.thenR ?_)))
   obtain rfl := some1 h
   have cC : Stp [13] (Lg.O0 A) w b5 cz := (tr_ (su_ r z) (tr_ (su_ q z) (tr_ (su_ l z) (tr_ (su_ e z) (tr_ (su_ j z) (su_ aX z))))))
   exact At.res (.inl z) z (.cell z (cA.runAg 0 [vi 0, vu 0, vi 0, Value.slice none 0 0, vi 0, Value.slice none 0 0, vi 0, vu 0, vi 0, Value.slice none 0 0, vi 0, Value.slice none 0 0, vi ao] ty83 z z z) .nil) ⟨Value.slice none 0 0, Value.slice none 0 0, Value.slice none 0 0, Value.slice none 0 0, z, (se_ cC z z), (Or.inl ⟨z, z⟩), (Or.inl ⟨z, z⟩), (Or.inl ⟨z, z⟩), (Or.inl ⟨z, z⟩)⟩
  ·refine WC.condF' z au (sk (th (sq (rg (wY (yf fo30_0 z) z ?_)))))
   have cD := aP.st e z
   have av := cD.st j z
   refine wY (yl ty3 z z (av.cell 0 _ z)) z (wY (ya z) z (nl (th (sq ?_))))
   obtain ⟨cY, h, cE⟩ := bnd h
   refine WC.join (σ := Int) (fun x w' => x = cY ∧ cv = w') (fun x => [(2, pt b1 0), (3, pt b2 0), (4, pt b3 0), (7, vi x)]) ?_ ?_
   ·refine sq (rg (wY (yf fo30_0 z) z ?_))
    have az := ar.st j z
    refine wY (yl ty3 z z (az.cell 0 _ z)) z (wY (ym z) z (wY (Y.lss_i z z) z (nl (th ?_))))
    rcases cnd h with ⟨Z, h⟩ | ⟨Z, h⟩
    ·refine WC.condT' z Z (rg (wY (yf fo30_0 z) z (wY (yl ty3 z z (az.cell 0 _ z)) z (wY (ya z) z (nl ?_)))))
     exact At.join (σ := Int) a1.Scale ⟨some1 h, z⟩ (.cons z (.cons z (.cons z (.cons z .nil))))
    ·refine WC.condF' z Z (sk ?_)
     exact At.join (σ := Int) a0.Scale ⟨some1 h, z⟩ (.cons z (.cons z (.cons z (.cons z .nil))))
   ·rintro aU _ ⟨rfl, rfl⟩
    replace h := cE
    try dsimp only at h
    refine (show At _ _ _ [(2, pt b1 0), (3, pt b2 0), (4, pt b3 0), (7, vi aU)] _ from ?_)
    refine th (sq (rg (wY (yL ty30 z z (av.cells 0 [vi a0.Scale, vu a0.Zero, vi a0.Pos.Offset, (Value.slice aa ab ac), vi a0.Neg.Offset, (Value.slice ad ae af)] z) z) z (wY (yf fo30_0 z) z (wY (yl ty3 z z (av.cell 0 _ z)) z (wY (ym z) z (wY (Y.sub_i z z) z ?_)))))))
    have aY := aQ.i e z z
    have aZ := aY.i j z z
    have a2 := aR.i e z z
    have a3 := a2.i j z z
    obtain ⟨⟨c, db⟩, a4, h⟩ := bnd h
    refine WL.call (vals := [ag [vi a0.Scale, vu a0.Zero, vi a0.Pos.Offset, (Value.slice aa ab ac), vi a0.Neg.Offset, (Value.slice ad ae af)], vi (w64 (a0.Scale - aU))]) kok54 z z (c_ref08_Down (A := fun _ => True) (a0 := a0) (Sl.all aZ) (Sl.all a3) a4) ?_
    rintro cZ aA ⟨cF, cG, rfl, a5, cH, cI⟩
    obtain ⟨aw, cP, V, Q⟩ := adoptE b5 (fun k => 1) a5
    have a6 : Sl Rep.u aA (frs aw) cF c.Pos.Counts := Sl.adoptF cH (fun k hk => ⟨hk, z⟩) V
    have a7 : Sl Rep.u aA (frs aw) cG c.Neg.Counts := Sl.adoptF cI (fun k hk => ⟨hk, z⟩) V
    refine wY (ym z) z (wY (yx z z) z (wY (yx z z) z (WL.alloc (O := aw) 14 [vi 0, vu 0, vi 0, Value.slice none 0 0, vi 0, Value.slice none 0 0] ty30 z z ?_)))
    intro dc cJ c0 m a8
    have aC := a6.f m z
    have a9 := h
    obtain ⟨t, C, D, rfl⟩ := aC.shape
    have h := a9
    have aD := a7.f m z
    have ba := h
    obtain ⟨F, G, H, rfl⟩ := aD.shape
    have h := ba
    refine WL.store (v := ag [vi c.Scale, vu c.Zero, vi c.Pos.Offset, (Value.slice t C D), vi c.Neg.Offset, (Value.slice F G H)]) (cells' := [vi c.Scale, vu c.Zero, vi c.Pos.Offset, (Value.slice t C D), vi c.Neg.Offset, (Value.slice F G H)]) ty30 z z a8 z (le_ z) z z ?_
    intro c1 n bb
    refine wY (ya z) z (nl (th (sq (rg ?_))))
    have bc := ar.st j z
    have bd := bc.st Q z
    have bf := bd.st m z
    have aE := bf.st n z
    refine wY (yL ty30 z z (aE.cells 0 [vi a1.Scale, vu a1.Zero, vi a1.Pos.Offset, (Value.slice ah ai aj), vi a1.Neg.Offset, (Value.slice ak al am)] z) z) z (wY (yf fo30_0 z) z (wY (yl ty3 z z (aE.cell 0 _ z)) z (wY (ym z) z (wY (Y.sub_i z z) z ?_))))
    have bg := aS.i j z z
    have bh := bg.i Q z z
    have bi := bh.i m z z
    have bj := bi.i n z z
    have bk := aT.i j z z
    have bl := bk.i Q z z
    have bm := bl.i m z z
    have bn := bm.i n z z
    obtain ⟨⟨d, dd⟩, bo, h⟩ := bnd h
    refine WL.call (vals := [ag [vi a1.Scale, vu a1.Zero, vi a1.Pos.Offset, (Value.slice ah ai aj), vi a1.Neg.Offset, (Value.slice ak al am)], vi (w64 (a1.Scale - aU))]) kok54 z z (c_ref08_Down (A := fun _ => True) (a0 := a1) (Sl.all bj) (Sl.all bn) bo) ?_
    rintro c2 aF ⟨cK, cL, rfl, bp, cM, cN⟩
    obtain ⟨ax, cQ, W, S⟩ := adoptE cJ (fun k => 1) bp
    have bq : Sl Rep.u aF (frs ax) cK d.Pos.Counts := Sl.adoptF cM (fun k hk => ⟨hk, z⟩) W
    have br : Sl Rep.u aF (frs ax) cL d.Neg.Counts := Sl.adoptF cN (fun k hk => ⟨hk, z⟩) W
    refine wY (ym z) z (wY (yx z z) z (wY (yx z z) z (WL.alloc (O := ax) 15 [vi 0, vu 0, vi 0, Value.slice none 0 0, vi 0, Value.slice none 0 0] ty30 z z ?_)))
    intro de cO c3 o bs
    have aG := bq.f o z
    have bt := h
    obtain ⟨I, J, K, rfl⟩ := aG.shape
    have h := bt
    have aH := br.f o z
    have bu := h
    obtain ⟨L, M, P, rfl⟩ := aH.shape
    have h := bu
    refine WL.store (v := ag [vi d.Scale, vu d.Zero, vi d.Pos.Offset, (Value.slice I J K), vi d.Neg.Offset, (Value.slice L M P)]) (cells' := [vi d.Scale, vu d.Zero, vi d.Pos.Offset, (Value.slice I J K), vi d.Neg.Offset, (Value.slice L M P)]) ty30 z z bs z (le_ z) z z ?_
    intro c4 p bw
    refine wY (ya z) z (nl (th (sq (rg ?_))))
    have bx := bb.st S z
    have bz := bx.st o z
    have bA := bz.st p z
    refine wY (yL ty30 z z (bA.cells 0 [vi c.Scale, vu c.Zero, vi c.Pos.Offset, (Value.slice t C D), vi c.Neg.Offset, (Value.slice F G H)] z) z) z (wY (yL ty30 z z (bw.cells 0 [vi d.Scale, vu d.Zero, vi d.Pos.Offset, (Value.slice I J K), vi d.Neg.Offset, (Value.slice L M P)] z) z) z (wY (yb (vals := [(0, ag [vi c.Scale, vu c.Zero, vi c.Pos.Offset, (Value.slice t C D), vi c.Neg.Offset, (Value.slice F G H)]), (1, ag [vi d.Scale, vu d.Zero, vi d.Pos.Offset, (Value.slice I J K), vi d.Neg.Offset, (Value.slice L M P)])]) (cells := [vi c.Scale, vu c.Zero, vi c.Pos.Offset, (Value.slice t C D), vi c.Neg.Offset, (Value.slice F G H), vi d.Scale, vu d.Zero, vi d.Pos.Offset, (Value.slice I J K), vi d.Neg.Offset, (Value.slice L M P), vi 0]) (fe_ z) (by kernel_rfl)) z ?_))
    have bB := ap.st e z
    have bC := bB.st j z
    have bD := bC.st Q z
    have bE := bD.st m z
    have bF := bE.st n z
    have bG := bF.st S z
    have bH := bG.st o z
    have bI := bH.st p z
    refine WL.store (v := ag [vi c.Scale, vu c.Zero, vi c.Pos.Offset, (Value.slice t C D), vi c.Neg.Offset, (Value.slice F G H), vi d.Scale, vu d.Zero, vi d.Pos.Offset, (Value.slice I J K), vi d.Neg.Offset, (Value.slice L M P), vi 0]) (cells' := [vi c.Scale, vu c.Zero, vi c.Pos.Offset, (Value.slice t C D), vi c.Neg.Offset, (Value.slice F G H), vi d.Scale, vu d.Zero, vi d.Pos.Offset, (Value.slice I J K), vi d.Neg.Offset, (Value.slice L M P), vi 0]) ty83 z z bI z (le_ z) z z ?_
    intro bJ T bK
    refine nl (th (rt ?_))
    obtain rfl := some1 h
    have U : Stp [13, 14, 15] (Lg.O0 A) w cO bJ := (tr_ (su_ r z) (tr_ (su_ q z) (tr_ (su_ l z) (tr_ (su_ e z) (tr_ (su_ j z) (tr_ (su_ Q z) (tr_ (su_ m z) (tr_ (su_ n z) (tr_ (su_ S z) (tr_ (su_ o z) (tr_ (su_ p z) (su_ T z))))))))))))
    have bL := aC.f n z
    have bM := bL.f S z
    have bO := bM.f o z
    have bP := bO.f p z
    have bQ := bP.f T z
    have bR := aD.f n z
    have bS := bR.f S z
    have bT := bS.f o z
    have bU := bT.f p z
    have bW := bU.f T z
    have bX := aG.f p z
    have bY := bX.f T z
    have bZ := aH.f p z
    have b0 := bZ.f T z
    exact At.res (.inl z) z (.cell z (bK.runAg 0 [vi c.Scale, vu c.Zero, vi c.Pos.Offset, (Value.slice t C D), vi c.Neg.Offset, (Value.slice F G H), vi d.Scale, vu d.Zero, vi d.Pos.Offset, (Value.slice I J K), vi d.Neg.Offset, (Value.slice L M P), vi 0] ty83 z z z) .nil) ⟨(Value.slice t C D), (Value.slice F G H), (Value.slice I J K), (Value.slice L M P), z, (se_ U z z), (Sl.outF bQ U low0), (Sl.outF bW U low0), (Sl.outF bY U low0), (Sl.outF b0 U low0)⟩
theorem c_ref09_reach {A : Nat → Prop} {v0_1 : Value} {a0 : api_Side} {v1_1 : Value} {a1 : api_Side} {w : World} (hs0_1 : Sl Rep.u w A v0_1 a0.Counts) (hs1_1 : Sl Rep.u w A v1_1 a1.Counts) {r0 : Int} {r1 : Int} {r2 : Bool} (h : ref09_reach a0 a1 = some (r0, r1, r2)) : Rets Try.prog 108 [ag [vi a0.Offset, v0_1], ag [vi a1.Offset, v1_1]] w (fun v w' => v = tp [vi r0, vi r1, vB r2] ∧ Ext w w') := by
 unfold ref09_reach at h
 refine Rets.enter Try.func108 z z ?_
 have ab : Sl Rep.u w (imm (Lg.O0 A)) v0_1 a0.Counts := (Sl.start hs0_1)
 have al : Sl Rep.u w (imm (Lg.O0 A)) v1_1 a1.Counts := (Sl.start hs1_1)
 refine (show WC _ _ _ _ [(0, ag [vi a0.Offset, v0_1]), (1, ag [vi a1.Offset, v1_1])] _ from ?_)
 refine sq (rg ?_)
 have am := h
 obtain ⟨ah, ai, aj, rfl⟩ := ab.shape
 have h := am
 refine WL.box (O := (Lg.O0 A)) 11 [vi a0.Offset, (Value.slice ah ai aj)] z z z ?_
 intro m aN aR e an
 have r := al.i e z z
 have ao := h
 obtain ⟨o, p, q, rfl⟩ := r.shape
 have h := ao
 refine WL.box (O := aN) 12 [vi a1.Offset, (Value.slice o p q)] z z z ?_
 intro n S D c F
 refine wY (ya z) z (wY (ya z) z (wY (ya z) z (nl (th (sq (sq (rg (wY (yf fo28_1 z) z ?_))))))))
 have t := an.st c z
 refine wY (yl ty26 z z (t.cell 1 _ z)) z ?_
 have ap := ab.i e z z
 have G := ap.i c z z
 refine wY (Y.len ty26 z G) z (wY (Y.eql_i z z) z (wY (ym z) z ?_))
 refine WL.cut 5 (σ := Unit) (fun _ w' => D = w') (fun _ => [(2, pt m 0), (3, pt n 0), (16, vB ((decide ((a0.Counts.length : Int) = 0)) && (decide ((a1.Counts.length : Int) = 0))))]) ?_ ?_
 ·refine WL.part 11 z (fun H => ?_) (fun H => ?_)
  ·refine ug z z (wY (yf fo28_1 z) z (ug z z (wY (yl ty26 z z (F.cell 1 _ z)) z (ug z z ?_))))
   have aq := r.i c z z
   refine wY (Y.len ty26 z aq) z (ug z z (wY (Y.eql_i z z) z (wY (Y.pick (b := true) z z) z (WL.ren (v' := vB ((decide ((a0.Counts.length : Int) = 0)) && (decide ((a1.Counts.length : Int) = 0)))) 16 z (congrArg vB (andT H)) ?_))))
   exact nl (At.join () z (.cons z (.cons z (.cons z .nil))))
  ·refine WL.gS z z z z (WL.gS z z z z (WL.gS z z z z (WL.gS z z z z (wY (Y.pick (b := false) z z) z (WL.ren (v' := vB ((decide ((a0.Counts.length : Int) = 0)) && (decide ((a1.Counts.length : Int) = 0)))) 16 z (congrArg vB (andF H)) ?_)))))
   exact nl (At.join () z (.cons z (.cons z (.cons z .nil))))
 ·rintro _ _ rfl
  refine (show WL _ _ _ _ _ [(2, pt m 0), (3, pt n 0), (16, vB ((decide ((a0.Counts.length : Int) = 0)) && (decide ((a1.Counts.length : Int) = 0))))] _ from ?_)
  refine nl (th ?_)
  rcases cnd h with ⟨I, h⟩ | ⟨I, h⟩
  ·refine WC.condT' z I (sq (rg (wY (ya z) z (wY (ya z) z (wY (ya z) z (nl (th (rt (At.thenR ?_)))))))))
   obtain ⟨rfl, rfl, rfl⟩ := tup3 h
   have ar : Stp [] (Lg.O0 A) w S D := (tr_ (su_ e z) (su_ c z))
   exact At.res (.inl z) z (.tmp z (.tmp z (.tmp z .nil))) ⟨z, (se_ ar z z)⟩
  ·refine WC.condF' z I (sk (th (sq ?_)))
   obtain ⟨aO, h, au⟩ := bnd h
   refine WC.join (σ := (Int × List UInt64 × Own × Value)) (fun x w' => (x.1, x.2.1) = aO ∧ Stp [11] S D x.2.2.1 w' ∧ Sl Rep.u w' (imm x.2.2.1) x.2.2.2 x.2.1 ∧ Blk 11 x.2.2.1 w' m 28 [vi x.1, x.2.2.2]) (fun x => [(2, pt m 0), (3, pt n 0)]) ?_ ?_
   ·refine sq (rg (wY (yf fo28_1 z) z (wY (yl ty26 z z (t.cell 1 _ z)) z (wY (Y.len ty26 z G) z (wY (Y.eql_i z z) z (nl (th ?_)))))))
    rcases cnd h with ⟨J, h⟩ | ⟨J, h⟩
    ·refine WC.condT' z J (rg (wY (yL ty28 z z (F.cells 0 [vi a1.Offset, (Value.slice o p q)] z) z) z (WL.store (v := ag [vi a1.Offset, (Value.slice o p q)]) (cells' := [vi a1.Offset, (Value.slice o p q)]) ty28 z z t z (le_ z) z z ?_)))
     intro aS T av
     refine nl ?_
     have aw := r.i c z z
     have ax := aw.i T z z
     exact At.join (σ := (Int × List UInt64 × Own × Value)) (a1.Offset, a1.Counts, S, (Value.slice o p q)) ⟨some1 h, (su_ T z), ax, av⟩ (.cons z (.cons z .nil))
    ·refine WC.condF' z J (sk ?_)
     exact At.join (σ := (Int × List UInt64 × Own × Value)) (a0.Offset, a0.Counts, S, (Value.slice ah ai aj)) ⟨some1 h, (sr_ _ _ _), G, t⟩ (.cons z (.cons z .nil))
   ·rintro ⟨U, aP, ac, aW⟩ ay ⟨rfl, j, C, K⟩
    replace h := au
    try dsimp only at h j C K
    refine (show At _ _ _ [(2, pt m 0), (3, pt n 0)] _ from ?_)
    refine th (sq ?_)
    have az := h
    obtain ⟨V, W, Z, rfl⟩ := C.shape
    have h := az
    obtain ⟨aQ, h, aA⟩ := bnd h
    refine WC.join (σ := (Int × List UInt64 × Own × Value)) (fun x w' => (x.1, x.2.1) = aQ ∧ Stp [12] ac ay x.2.2.1 w' ∧ Sl Rep.u w' (imm x.2.2.1) x.2.2.2 x.2.1 ∧ Blk 12 x.2.2.1 w' n 28 [vi x.1, x.2.2.2]) (fun x => [(2, pt m 0), (3, pt n 0)]) ?_ ?_
    ·refine sq (rg (wY (yf fo28_1 z) z ?_))
     have L := F.st j z
     refine wY (yl ty26 z z (L.cell 1 _ z)) z ?_
     have aC := r.i c z z
     have ad := aC.i j z z
     refine wY (Y.len ty26 z ad) z (wY (Y.eql_i z z) z (nl (th ?_)))
     rcases cnd h with ⟨M, h⟩ | ⟨M, h⟩
     ·refine WC.condT' z M (rg (wY (yL ty28 z z (K.cells 0 [vi U, (Value.slice V W Z)] z) z) z (WL.store (v := ag [vi U, (Value.slice V W Z)]) (cells' := [vi U, (Value.slice V W Z)]) ty28 z z L z (le_ z) z z ?_)))
      intro aT aa aD
      refine nl ?_
      have aE := C.i aa z z
      exact At.join (σ := (Int × List UInt64 × Own × Value)) (U, aP, ac, (Value.slice V W Z)) ⟨some1 h, (su_ aa z), aE, aD⟩ (.cons z (.cons z .nil))
     ·refine WC.condF' z M (sk ?_)
      exact At.join (σ := (Int × List UInt64 × Own × Value)) (a1.Offset, a1.Counts, ac, (Value.slice o p q)) ⟨some1 h, (sr_ _ _ _), ad, L⟩ (.cons z (.cons z .nil))
    ·rintro ⟨aX, aY, ak, aZ⟩ aU ⟨rfl, l, ae, af⟩
     replace h := aA
     try dsimp only at h l ae af
     refine (show At _ _ _ [(2, pt m 0), (3, pt n 0)] _ from ?_)
     refine th (sq (WC.draw 21 ak fmix (by kernel_rfl) ?_))
     intro aF d
     refine WS.y (yf fo28_0 z) z ?_
     have aG := K.st l z
     have P := aG.st d z
     refine WS.y (yl ty3 z z (P.cell 0 _ z)) z (WS.y (yf fo28_0 z) z ?_)
     have Q := af.st d z
     refine WS.y (yl ty3 z z (Q.cell 0 _ z)) z (WS.y (Y.min_i z z) z (WS.y (yf fo28_0 z) z (WS.y (yl ty3 z z (P.cell 0 _ z)) z (WS.y (yf fo28_1 z) z (WS.y (yl ty26 z z (P.cell 1 _ z)) z ?_)))))
     have aH := C.i l z z
     have aI := aH.i d z z
     refine WS.y (Y.len ty26 z aI) z (WS.y (Y.add_i z z) z (WS.y (yf fo28_0 z) z (WS.y (yl ty3 z z (Q.cell 0 _ z)) z (WS.y (yf fo28_1 z) z (WS.y (yl ty26 z z (Q.cell 1 _ z)) z ?_)))))
     have aJ := ae.i d z z
     refine WS.y (Y.len ty26 z aJ) z (WS.y (Y.add_i z z) z (WS.y (Y.max_i z z) z (WS.y (Y.sub_i z z) z ?_)))
     obtain ⟨a2, aK, h⟩ := lt1 h
     refine WS.yE (ya z) (congrArg vi aK.symm) z ?_
     obtain ⟨a3, aL, h⟩ := lt1 h
     refine WS.yE (ya z) (congrArg vi aL.symm) z (WS.tail (wY (ya z) z (nl (th (rt ?_)))))
     obtain ⟨rfl, rfl, rfl⟩ := tup3 h
     have aM : Stp [11, 12] (Lg.O0 A) w ak aF := (tr_ (su_ e z) (tr_ (su_ c z) (tr_ (su_ j z) (tr_ (su_ l z) (su_ d z)))))
     exact At.res (.inl z) z (.tmp z (.tmp z (.tmp z .nil))) ⟨z, (se_ aM z z)⟩
theorem c_ref09_At {A : Nat → Prop} {v0_1 : Value} {a0 : api_Side} {a1 : Int} {w : World} (hs0_1 : Sl Rep.u w A v0_1 a0.Counts) {r0 : UInt64} (h : ref09_At a0 a1 = some r0) : Rets Try.prog 109 [ag [vi a0.Offset, v0_1], vi a1] w (fun v w' => v = vu r0 ∧ Ext w w') := by
 unfold ref09_At at h
 refine Rets.enter Try.func109 z z ?_
 have e : Sl Rep.u w (imm (Lg.O0 A)) v0_1 a0.Counts := (Sl.start hs0_1)
 refine (show WC _ _ _ _ [(0, ag [vi a0.Offset, v0_1]), (1, vi a1)] _ from ?_)
 refine sq (rg ?_)
 have t := h
 obtain ⟨M, P, Q, rfl⟩ := e.shape
 have h := t
 refine WL.box (O := (Lg.O0 A)) 11 [vi a0.Offset, (Value.slice M P Q)] z z z ?_
 intro q r j c d
 refine wY (ya (v := vu 0) z) z (nl (th (sq (sq (rg (wY (ym z) z (wY (yf fo28_0 z) z (wY (yl ty3 z z (d.cell 0 _ z)) z (wY (Y.lss_i z z) z ?_)))))))))
 refine wY (ym z) z ?_
 refine WL.cut 9 (σ := Unit) (fun _ w' => j = w') (fun _ => [(1, vi a1), (2, pt q 0), (18, vB ((decide (a1 < a0.Offset)) || (decide (w64 (a0.Offset + (a0.Counts.length : Int)) ≤ a1))))]) ?_ ?_
 ·refine WL.part 9 z (fun l => ?_) (fun l => ?_)
  ·refine WL.gS z z z z (WL.gS z z z z (WL.gS z z z z (WL.gS z z z z (WL.gS z z z z (WL.gS z z z z (WL.gS z z z z (WL.gS z z z z (wY (Y.pick (b := true) z z) z (WL.ren (v' := vB ((decide (a1 < a0.Offset)) || (decide (w64 (a0.Offset + (a0.Counts.length : Int)) ≤ a1)))) 18 z (congrArg vB (orT l)) ?_)))))))))
   exact nl (At.join () z (.cons z (.cons z (.cons z .nil))))
  ·refine ug z z (wY (ym z) z (ug z z (wY (yf fo28_0 z) z (ug z z (wY (yl ty3 z z (d.cell 0 _ z)) z (ug z z (wY (yf fo28_1 z) z (ug z z (wY (yl ty26 z z (d.cell 1 _ z)) z ?_)))))))))
   refine ug z z ?_
   have C := e.i c z z
   refine wY (Y.len ty26 z C) z (ug z z (wY (Y.add_i z z) z (ug z z (wY (Y.geq_i z z) z (wY (Y.pick (b := false) z z) z (WL.ren (v' := vB ((decide (a1 < a0.Offset)) || (decide (w64 (a0.Offset + (a0.Counts.length : Int)) ≤ a1)))) 18 z (congrArg vB (orF l)) ?_))))))
   exact nl (At.join () z (.cons z (.cons z (.cons z .nil))))
 ·rintro _ _ rfl
  refine (show WL _ _ _ _ _ [(1, vi a1), (2, pt q 0), (18, vB ((decide (a1 < a0.Offset)) || (decide (w64 (a0.Offset + (a0.Counts.length : Int)) ≤ a1))))] _ from ?_)
  refine nl (th ?_)
  rcases cnd h with ⟨m, h⟩ | ⟨m, h⟩
  ·refine WC.condT' z m (sq (rg (wY (ya (v := vu 0) z) z (nl (th (rt (At.thenR ?_)))))))
   obtain rfl := some1 h
   have D : Stp [] (Lg.O0 A) w r j := (su_ c z)
   exact At.res (.inl z) z (.tmp z .nil) ⟨z, (se_ D z z)⟩
  ·refine WC.condF' z m (sk (th (sq (rg (wY (yf fo28_1 z) z (wY (yl ty26 z z (d.cell 1 _ z)) z (wY (ym z) z (wY (yf fo28_0 z) z (wY (yl ty3 z z (d.cell 0 _ z)) z ?_)))))))))
   refine wY (Y.sub_i z z) z ?_
   obtain ⟨S, F, h⟩ := bnd h
   have G := e.i c z z
   obtain ⟨W, T, U, V, H, I, J, n, o, K⟩ := Sl.at2 G F
   obtain rfl := o
   replace n : CellsAt _ _ _ [vu S] := n
   have p := CAt.imm n K
   refine wY (Y.indexAddr ty26 ty25 z H z I J) z (wY (yl ty25 z z p.at_) z (wY (ya z) z (nl (th (rt ?_)))))
   obtain rfl := some1 h
   have L : Stp [] (Lg.O0 A) w r j := (su_ c z)
   exact At.res (.inl z) z (.tmp z .nil) ⟨z, (se_ L z z)⟩
theorem c_ref09_both {A : Nat → Prop} {v0_1 : Value} {a0 : api_Side} {v1_1 : Value} {a1 : api_Side} {w : World} (hs0_1 : Sl Rep.u w A v0_1 a0.Counts) (hs1_1 : Sl Rep.u w A v1_1 a1.Counts) {r0 : api_Side} {r1 : Bool} (h : ref09_both a0 a1 = some (r0, r1)) : Rets Try.prog 86 [ag [vi a0.Offset, v0_1], ag [vi a1.Offset, v1_1]] w (fun v w' => ∃ (ao : Value), v = Value.tuple (List.toArray [ag [vi r0.Offset, ao], vB r1]) ∧ Ext w w' ∧ Sl Rep.u w' (fun k => w.heap.size ≤ k) ao r0.Counts) := by
 unfold ref09_both at h
 refine Rets.enter Try.func86 z z ?_
 have ap : Sl Rep.u w (imm (Lg.O0 A)) v0_1 a0.Counts := (Sl.start hs0_1)
 have bR : Sl Rep.u w (imm (Lg.O0 A)) v1_1 a1.Counts := (Sl.start hs1_1)
 refine (show WC _ _ _ _ [(0, ag [vi a0.Offset, v0_1]), (1, ag [vi a1.Offset, v1_1])] _ from ?_)
 refine sq (rg ?_)
 have bS := h
 obtain ⟨P, Q, S, rfl⟩ := ap.shape
 have h := bS
 refine WL.box (O := (Lg.O0 A)) 11 [vi a0.Offset, (Value.slice P Q S)] z z z ?_
 intro bL co cI q bT
 have aq := bR.i q z z
 have bU := h
 obtain ⟨T, U, V, rfl⟩ := aq.shape
 have h := bU
 refine WL.box (O := co) 12 [vi a1.Offset, (Value.slice T U V)] z z z ?_
 intro bM cp cJ n bW
 refine WL.alloc (O := cp) 13 [vi 0, Value.slice none 0 0] ty28 z z ?_
 intro al cq cK e ab
 refine wY (ya z) z (nl (th (sq (rg ?_))))
 have bX := bT.st n z
 have ar := bX.st e z
 refine wY (yL ty28 z z (ar.cells 0 [vi a0.Offset, (Value.slice P Q S)] z) z) z ?_
 have au := bW.st e z
 refine wY (yL ty28 z z (au.cells 0 [vi a1.Offset, (Value.slice T U V)] z) z) z ?_
 have bY := ap.i q z z
 have bZ := bY.i n z z
 have av := bZ.i e z z
 have b0 := aq.i n z z
 have aw := b0.i e z z
 obtain ⟨⟨l, ax, cX⟩, b1, h⟩ := bnd h
 refine WL.call (vals := [ag [vi a0.Offset, (Value.slice P Q S)], ag [vi a1.Offset, (Value.slice T U V)]]) kok108 z z (c_ref09_reach (A := fun _ => True) (a0 := a0) (a1 := a1) (Sl.all av) (Sl.all aw) b1) ?_
 rintro cL cM ⟨rfl, b2⟩
 obtain ⟨ay, cr, cs, c⟩ := adoptE cq (fun k => 1) b2
 refine wY (ym z) z (wY (yx z z) z (wY (yx z z) z (wY (yx z z) z (wY (ya z) z (wY (ya z) z (wY (ya z) z (nl (th (sq ?_)))))))))
 refine sq (rg (wY (ym z) z (wY (Y.not z) z (nl (th ?_)))))
 rcases cnd h with ⟨ac, h⟩ | ⟨ac, h⟩
 ·refine WC.condT' z ac (sq (rg (wY (yb (vals := []) (cells := [vi 0, Value.slice none 0 0]) (fe_ z) (by kernel_rfl)) z ?_)))
  have b3 := ab.st c z
  refine WL.store (v := ag [vi 0, Value.slice none 0 0]) (cells' := [vi 0, Value.slice none 0 0]) ty28 z z b3 z (le_ z) z z ?_
  intro b4 aJ b5
  refine wY (ya z) z (nl (th (rt (At.thenR ?_))))
  obtain ⟨rfl, rfl⟩ := tup2 h
  have b6 : Stp [13] (Lg.O0 A) w ay b4 := (tr_ (su_ q z) (tr_ (su_ n z) (tr_ (su_ e z) (tr_ (su_ c z) (su_ aJ z)))))
  exact At.res (.inl z) z (.cell z (b5.runAg 0 [vi 0, Value.slice none 0 0] ty28 z z z) (.tmp z .nil)) ⟨Value.slice none 0 0, z, (se_ b6 z z), (Or.inl ⟨z, z⟩)⟩
 ·refine WC.condF' z ac (sk (th (sq (sq (rg (wY (ym z) z (wY (ym z) z (wY (Y.sub_i z z) z (wY (Y.geq_i z z) z ?_)))))))))
  refine nl (th ?_)
  rcases cnd h with ⟨ad, h⟩ | ⟨ad, h⟩
  ·refine WC.condT' z ad (sq (rg (wY (yb (vals := []) (cells := [vi 0, Value.slice none 0 0]) (fe_ z) (by kernel_rfl)) z ?_)))
   have b7 := ab.st c z
   refine WL.store (v := ag [vi 0, Value.slice none 0 0]) (cells' := [vi 0, Value.slice none 0 0]) ty28 z z b7 z (le_ z) z z ?_
   intro b8 aK b9
   refine wY (ya z) z (nl (th (rt (At.thenR ?_))))
   obtain ⟨rfl, rfl⟩ := tup2 h
   have ca : Stp [13] (Lg.O0 A) w ay b8 := (tr_ (su_ q z) (tr_ (su_ n z) (tr_ (su_ e z) (tr_ (su_ c z) (su_ aK z)))))
   exact At.res (.inl z) z (.cell z (b9.runAg 0 [vi 0, Value.slice none 0 0] ty28 z z z) (.tmp z .nil)) ⟨Value.slice none 0 0, z, (se_ ca z z), (Or.inl ⟨z, z⟩)⟩
  ·refine WC.condF' z ad (sk (th (sq (rg (wY (ym z) z (wY (yb (vals := [(0, vi l)]) (cells := [vi l, Value.slice none 0 0]) (fe_ z) (by kernel_rfl)) z (WL.alloc (O := ay) 14 [vi 0, Value.slice none 0 0] ty28 z z ?_)))))))
   intro F az cN o cb
   refine WL.store (v := ag [vi l, Value.slice none 0 0]) (cells' := [vi l, Value.slice none 0 0]) ty28 z z cb z (le_ z) z z ?_
   intro aA p cc
   refine nl (th (sq (sq (rg (wY (ym z) z (wY (ya z) z (nl (th (WC.block ?_)))))))))
   obtain ⟨bO, h, cd⟩ := flow1 h
   obtain ⟨bP, h⟩ := loop_some h
   refine WC.joinB 0 (σ := (List UInt64 × Own × Value)) (fun x w' => bO = .go x.1 ∧ Stp [14, 16, 1001] az aA x.2.1 w' ∧ OwnSl 1002 Rep.u 25 x.2.1 w' x.2.2 x.1 ∧ Blk 14 x.2.1 w' F 28 [vi l, x.2.2]) (fun x => [(4, pt al 0), (9, pt F 0)]) ?_ ?_
   ·refine WC.loop (σ := (List UInt64 × Int × Own × Value)) (fun x k w' => loopN k (ref09_both_lp1 a0 a1 ax) (x.1, x.2.1) = some bO ∧ Stp [14, 16, 1001] az aA x.2.2.1 w' ∧ OwnSl 1001 Rep.u 25 x.2.2.1 w' x.2.2.2 x.1 ∧ Blk 14 x.2.2.1 w' F 28 [vi l, x.2.2.2]) (fun x => [(2, pt bL 0), (3, pt bM 0), (4, pt al 0), (7, vi ax), (9, pt F 0), (10, vi x.2.1)]) ([], l, az, Value.slice none 0 0) bP (.cons z (.cons z (.cons z (.cons z (.cons z (.cons z .nil)))))) ⟨h, (sr_ _ _ _), (OwnSl.nil 1001 Rep.u 25), cc⟩ ?_
    rintro ⟨ct, aC, bQ, cu⟩ bP cO ⟨h, j, ae, G⟩
    obtain ⟨cv, cY, rfl, h, aD⟩ := rnd1 h
    unfold ref09_both_lp1 at h
    try dsimp only at h j ae G
    refine (show WC _ _ _ _ [(2, pt bL 0), (3, pt bM 0), (4, pt al 0), (7, vi ax), (9, pt F 0), (10, vi aC)] _ from ?_)
    refine sq (sq (rg (wY (ym z) z (wY (ym z) z (wY (Y.leq_i z z) z (nl (th ?_)))))))
    rcases cnd h with ⟨af, h⟩ | ⟨af, h⟩
    ·refine WC.condT' z af (sk (th (sq (WC.block (WC.drawH [1001] [0, 1, 2, 3, 4, 5, 6, 7, 8, 9, 10, 11] bQ 13 fmix z (by kernel_rfl) ?_)))))
     intro cP d
     refine WD.y 0 z (by kernel_rfl) (fun _ _ _ => yf fo28_1 z) z (WD.y 1 z (by kernel_rfl) (fun cx cQ aE => have aL := G.st d z; have aM := aL.st aE z; yl ty26 z z (aM.cell 1 _ z)) z (WD.y 2 z (by kernel_rfl) (fun cy cR aF => have aN := ar.st c z; have aO := aN.st o z; have aP := aO.st p z; have aQ := aP.st j z; have aR := aQ.st d z; have aS := aR.st aF z; yL ty28 z z (aS.cells 0 [vi a0.Offset, (Value.slice P Q S)] z) z) z (WD.y 3 z (by kernel_rfl) (fun _ _ _ => ym z) z (WD.y 5 z (by kernel_rfl) (fun cz cS aG => have aT := au.st c z; have aU := aT.st o z; have aW := aU.st p z; have aX := aW.st j z; have aY := aX.st d z; have aZ := aY.st aG z; yL ty28 z z (aZ.cells 0 [vi a1.Offset, (Value.slice T U V)] z) z) z (WD.y 6 z (by kernel_rfl) (fun _ _ _ => ym z) z (WD.heavy 4 z (by kernel_rfl) ?_))))))
     have a2 := av.i c z z
     have a3 := a2.i o z z
     have a4 := a3.i p z z
     have a5 := a4.i j z z
     have a6 := a5.i d z z
     obtain ⟨H, a7, h⟩ := bnd h
     refine WL.call (vals := [ag [vi a0.Offset, (Value.slice P Q S)], vi aC]) kok109 z z (c_ref09_At (A := fun _ => True) (a0 := a0) (Sl.all a6) a7) ?_
     rintro cA cC ⟨rfl, a8⟩
     obtain ⟨ce, ck, cl, m⟩ := adoptE bQ (fun k => 1) a8
     refine nl (At.dq (su_ m z) (WD.heavy 7 z (by kernel_rfl) ?_))
     have a9 := aw.i c z z
     have ba := a9.i o z z
     have bb := ba.i p z z
     have bc := bb.i j z z
     have bd := bc.i d z z
     have bf := bd.i m z z
     obtain ⟨I, bg, h⟩ := bnd h
     refine WL.call (vals := [ag [vi a1.Offset, (Value.slice T U V)], vi aC]) kok109 z z (c_ref09_At (A := fun _ => True) (a0 := a1) (Sl.all bf) bg) ?_
     rintro cD cE ⟨rfl, bh⟩
     obtain ⟨cf, cm, cn, r⟩ := adoptE ce (fun k => 1) bh
     refine nl (At.dq (su_ r z) (WD.y 8 z (by kernel_rfl) (fun _ _ _ => Y.add_u z z) z (WD.heavy 9 z (by kernel_rfl) (WL.buildSlice (O := cf) (R := Rep.u) (vals := [(0, vu (H + I))]) 15 [vu (H + I)] (xs := [(H + I)]) (by decide) ty26 ty25 (by decide) (by decide) (fe_ z) (by kernel_rfl) z ⟨[vu (H + I)], [], z, z, z⟩ z ?_))))
     intro cT cU cF t bi
     refine nl (At.dq (su_ t z) (WD.heavy 10 z (by kernel_rfl) ?_))
     obtain ⟨bj, aH, h⟩ := bnd h
     have bk := ae.st d z z z
     have bl := bk.st m z z z
     have bm := bl.st r z z z
     have bn := bm.st t z z z
     refine WL.append (by decide) ty26 ty25 z (by decide) z z bn bi.src aH z ?_
     intro cV cg cG C am
     refine nl (At.dq (su_ C z) (WD.y 11 z (by kernel_rfl) (fun _ _ _ => yf fo28_1 z) z (WD.phase [14] [0, 1, 2, 3, 4, 5, 6, 7, 8, 9, 10, 11, 12] (by kernel_rfl) (by kernel_rfl) (WD.heavy 12 z (by kernel_rfl) ?_))))
     have bo := h
     obtain ⟨ah, ai, aj, rfl⟩ := am.shape
     have h := bo
     have bp := G.st d z
     have bq := bp.st m z
     have br := bq.st r z
     have bs := br.st t z
     have bt := bs.st C z
     refine WL.store (v := (Value.slice ah ai aj)) (cells' := [vi l, (Value.slice ah ai aj)]) ty26 z z bt z (le_ z) z z ?_
     intro cH D bu
     refine nl (At.dq (su_ D z) (WD.done_ (by kernel_rfl) (At.inBlock (th (rg (wY (ym z) z (wY (Y.add_i z z) z ?_)))))))
     obtain ⟨ch, bw, h⟩ := lt1 h
     refine WL.yE (ya z) (congrArg vi bw.symm) z (nl ?_)
     have bx := am.st D z z z
     exact At.round (bj, ch, cg, (Value.slice ah ai aj)) cv (Nat.lt_succ_self _) ⟨next1 h aD, (tr_ (su_ j z) (tr_ (su_ d z) (tr_ (su_ m z) (tr_ (su_ r z) (tr_ (su_ t z) (tr_ (su_ C z) (su_ D z))))))), bx, bu⟩ (.cons z (.cons z (.cons z (.cons z (.cons z (.cons z .nil))))))
    ·refine WC.condF' z af (WC.exit (At.thenX (At.loopX ?_)))
     obtain ⟨ci, W, bz⟩ := OwnSl.rlb 1002 rfl ae
     have bA := G.st W z
     exact At.hitB (σ := (List UInt64 × Own × Value)) (ct, ci, cu) ⟨brk1 h aD, (tr_ (su_ j z) (su_ W z)), bz, bA⟩ (.cons z (.cons z .nil))
   ·rintro ⟨cZ, c0, cw⟩ cW ⟨rfl, J, ak, aI⟩
    replace h := flowK_go cd
    try dsimp only at h J ak aI
    refine (show At _ _ _ [(4, pt al 0), (9, pt F 0)] _ from ?_)
    refine At.inBlockHit (th (sq (rg (wY (yL ty28 z z (aI.cells 0 [vi l, cw] z) z) z ?_))))
    have bB := h
    obtain ⟨K, L, M, rfl⟩ := ak.shape
    have h := bB
    have bC := ab.st c z
    have bD := bC.st o z
    have bE := bD.st p z
    have bF := bE.st J z
    refine WL.store (v := ag [vi l, (Value.slice K L M)]) (cells' := [vi l, (Value.slice K L M)]) ty28 z z bF z (le_ z) z z ?_
    intro bG Z bH
    refine wY (ya z) z (nl (th (rt ?_)))
    obtain ⟨rfl, rfl⟩ := tup2 h
    have bI := ak.st Z z z z
    obtain ⟨cj, aa, bJ⟩ := OwnSl.giveF rfl Flat.u bI
    have an : Stp [13, 14, 16, 1001, 1002] (Lg.O0 A) w cj bG := (tr_ (su_ q z) (tr_ (su_ n z) (tr_ (su_ e z) (tr_ (su_ c z) (tr_ (su_ o z) (tr_ (su_ p z) (tr_ (su_ J z) (tr_ (su_ Z z) (su_ aa z)))))))))
    have bK := bH.st aa z
    exact At.res (.inl z) z (.cell z (bK.runAg 0 [vi l, (Value.slice K L M)] ty28 z z z) (.tmp z .nil)) ⟨(Value.slice K L M), z, (se_ an z z), (Sl.outF bJ an low0)⟩
theorem c_ref09_Merge {A : Nat → Prop} {v0_3 : Value} {v0_5 : Value} {a0 : api_Hist} {v1_3 : Value} {v1_5 : Value} {a1 : api_Hist} {w : World} (hs0_3 : Sl Rep.u w A v0_3 a0.Pos.Counts) (hs0_5 : Sl Rep.u w A v0_5 a0.Neg.Counts) (hs1_3 : Sl Rep.u w A v1_3 a1.Pos.Counts) (hs1_5 : Sl Rep.u w A v1_5 a1.Neg.Counts) {r0 : api_Hist} {r1 : Int} (h : ref09_Merge a0 a1 = some (r0, r1)) : Rets Try.prog 55 [ag [vi a0.Scale, vu a0.Zero, vi a0.Pos.Offset, v0_3, vi a0.Neg.Offset, v0_5], ag [vi a1.Scale, vu a1.Zero, vi a1.Pos.Offset, v1_3, vi a1.Neg.Offset, v1_5]] w (fun v w' => ∃ (aL : Value) (aM : Value), v = Value.tuple (List.toArray [ag [vi r0.Scale, vu r0.Zero, vi r0.Pos.Offset, aL, vi r0.Neg.Offset, aM], vi r1]) ∧ Ext w w' ∧ Sl Rep.u w' (fun k => w.heap.size ≤ k) aL r0.Pos.Counts ∧ Sl Rep.u w' (fun k => w.heap.size ≤ k) aM r0.Neg.Counts) := by
 unfold ref09_Merge at h
 refine Rets.enter Try.func55 z z ?_
 have aN : Sl Rep.u w (imm (Lg.O0 A)) v0_3 a0.Pos.Counts := (Sl.start hs0_3)
 have aO : Sl Rep.u w (imm (Lg.O0 A)) v0_5 a0.Neg.Counts := (Sl.start hs0_5)
 have cW : Sl Rep.u w (imm (Lg.O0 A)) v1_3 a1.Pos.Counts := (Sl.start hs1_3)
 have cX : Sl Rep.u w (imm (Lg.O0 A)) v1_5 a1.Neg.Counts := (Sl.start hs1_5)
 refine (show WC _ _ _ _ [(0, ag [vi a0.Scale, vu a0.Zero, vi a0.Pos.Offset, v0_3, vi a0.Neg.Offset, v0_5]), (1, ag [vi a1.Scale, vu a1.Zero, vi a1.Pos.Offset, v1_3, vi a1.Neg.Offset, v1_5])] _ from ?_)
 refine sq (rg ?_)
 have cY := h
 obtain ⟨aP, aQ, aR, rfl⟩ := aN.shape
 have h := cY
 have cZ := h
 obtain ⟨aS, aT, aU, rfl⟩ := aO.shape
 have h := cZ
 refine WL.box (O := (Lg.O0 A)) 11 [vi a0.Scale, vu a0.Zero, vi a0.Pos.Offset, (Value.slice aP aQ aR), vi a0.Neg.Offset, (Value.slice aS aT aU)] z z z ?_
 intro ed dF d3 D c0
 have aW := cW.i D z z
 have c1 := h
 obtain ⟨aX, aY, aZ, rfl⟩ := aW.shape
 have h := c1
 have a2 := cX.i D z z
 have c2 := h
 obtain ⟨a3, a4, a5, rfl⟩ := a2.shape
 have h := c2
 refine WL.box (O := dF) 12 [vi a1.Scale, vu a1.Zero, vi a1.Pos.Offset, (Value.slice aX aY aZ), vi a1.Neg.Offset, (Value.slice a3 a4 a5)] z z z ?_
 intro ee dG d4 r c3
 refine WL.alloc (O := dG) 13 [vi 0, vu 0, vi 0, Value.slice none 0 0, vi 0, Value.slice none 0 0] ty30 z z ?_
 intro cU dH d5 m ak
 refine wY (ya z) z (nl (th (sq (rg ?_))))
 have c4 := c0.st r z
 have c5 := c4.st m z
 refine wY (yL ty30 z z (c5.cells 0 [vi a0.Scale, vu a0.Zero, vi a0.Pos.Offset, (Value.slice aP aQ aR), vi a0.Neg.Offset, (Value.slice aS aT aU)] z) z) z ?_
 have c6 := c3.st m z
 refine wY (yL ty30 z z (c6.cells 0 [vi a1.Scale, vu a1.Zero, vi a1.Pos.Offset, (Value.slice aX aY aZ), vi a1.Neg.Offset, (Value.slice a3 a4 a5)] z) z) z ?_
 have c7 := aN.i D z z
 have c8 := c7.i r z z
 have c9 := c8.i m z z
 have da := aO.i D z z
 have db := da.i r z z
 have dc := db.i m z z
 have dd := aW.i r z z
 have de := dd.i m z z
 have df := a2.i r z z
 have dg := df.i m z z
 obtain ⟨c, dh, h⟩ := bnd h
 refine WL.call (vals := [ag [vi a0.Scale, vu a0.Zero, vi a0.Pos.Offset, (Value.slice aP aQ aR), vi a0.Neg.Offset, (Value.slice aS aT aU)], ag [vi a1.Scale, vu a1.Zero, vi a1.Pos.Offset, (Value.slice aX aY aZ), vi a1.Neg.Offset, (Value.slice a3 a4 a5)]]) kok53 z z (c_ref09_Level (A := fun _ => True) (a0 := a0) (a1 := a1) (Sl.all c9) (Sl.all dc) (Sl.all de) (Sl.all dg) dh) ?_
 rintro d6 al ⟨dI, dJ, dK, dL, rfl, di, dM, dN, dO, dP⟩
 obtain ⟨ay, dQ, Q, F⟩ := adoptE dH (fun k => 1) di
 have dj : Sl Rep.u al (frs ay) dI c.X.Pos.Counts := Sl.adoptF dM (fun k hk => ⟨hk, z⟩) Q
 have dk : Sl Rep.u al (frs ay) dJ c.X.Neg.Counts := Sl.adoptF dN (fun k hk => ⟨hk, z⟩) Q
 have dl : Sl Rep.u al (frs ay) dK c.Y.Pos.Counts := Sl.adoptF dO (fun k hk => ⟨hk, z⟩) Q
 have dm : Sl Rep.u al (frs ay) dL c.Y.Neg.Counts := Sl.adoptF dP (fun k hk => ⟨hk, z⟩) Q
 refine WL.alloc (O := ay) 14 [vi 0, vu 0, vi 0, Value.slice none 0 0, vi 0, Value.slice none 0 0, vi 0, vu 0, vi 0, Value.slice none 0 0, vi 0, Value.slice none 0 0, vi 0] ty83 z z ?_
 intro cV a6 d7 l dn
 have a7 := dj.f l z
 have dp := h
 obtain ⟨ab, ac, ad, rfl⟩ := a7.shape
 have h := dp
 have a8 := dk.f l z
 have dr := h
 obtain ⟨ae, af, ah, rfl⟩ := a8.shape
 have h := dr
 have a9 := dl.f l z
 have bk := h
 obtain ⟨ai, aj, S, rfl⟩ := a9.shape
 have h := bk
 have aA := dm.f l z
 have bl := h
 obtain ⟨T, U, V, rfl⟩ := aA.shape
 have h := bl
 refine WL.store (v := ag [vi c.X.Scale, vu c.X.Zero, vi c.X.Pos.Offset, (Value.slice ab ac ad), vi c.X.Neg.Offset, (Value.slice ae af ah), vi c.Y.Scale, vu c.Y.Zero, vi c.Y.Pos.Offset, (Value.slice ai aj S), vi c.Y.Neg.Offset, (Value.slice T U V), vi c.E]) (cells' := [vi c.X.Scale, vu c.X.Zero, vi c.X.Pos.Offset, (Value.slice ab ac ad), vi c.X.Neg.Offset, (Value.slice ae af ah), vi c.Y.Scale, vu c.Y.Zero, vi c.Y.Pos.Offset, (Value.slice ai aj S), vi c.Y.Neg.Offset, (Value.slice T U V), vi c.E]) ty83 z z dn z (le_ z) z z ?_
 intro dR d W
 refine nl (th (sq (sq (rg (wY (yf fo83_2 z) z (wY (yl ty38 z z (W.cell 12 _ z)) z (wY (Y.neq_i z z) z (nl (th ?_)))))))))
 rcases cnd h with ⟨am, h⟩ | ⟨am, h⟩
 ·refine WC.condT' z am (sq (WC.drawH [13] [0, 1, 2, 3, 4] a6 5 fmix z (by kernel_rfl) ?_))
  intro dS Z
  refine WD.y 0 z (by kernel_rfl) (fun _ _ _ => yb (vals := []) (cells := [vi 0, vu 0, vi 0, Value.slice none 0 0, vi 0, Value.slice none 0 0]) (fe_ z) (by kernel_rfl)) z (WD.y 1 z (by kernel_rfl) (fun _ _ _ => yf fo83_2 z) z (WD.y 2 z (by kernel_rfl) (fun dT d8 ba => have bm := W.st Z z; have bn := bm.st ba z; yl ty38 z z (bn.cell 12 _ z)) z (WD.heavy 3 z (by kernel_rfl) ?_)))
  have bo := ak.st F z
  have bp := bo.st l z
  have bq := bp.st d z
  have br := bq.st Z z
  refine WL.store (v := ag [vi 0, vu 0, vi 0, Value.slice none 0 0, vi 0, Value.slice none 0 0]) (cells' := [vi 0, vu 0, vi 0, Value.slice none 0 0, vi 0, Value.slice none 0 0]) ty30 z z br z (le_ z) z z ?_
  intro bs az bt
  refine nl (At.dq (su_ az z) (WD.y 4 z (by kernel_rfl) (fun _ _ _ => ya z) z (WD.done_ (by kernel_rfl) (th (rt (At.thenR ?_))))))
  obtain ⟨rfl, rfl⟩ := tup2 h
  have bu : Stp [13, 14] (Lg.O0 A) w a6 bs := (tr_ (su_ D z) (tr_ (su_ r z) (tr_ (su_ m z) (tr_ (su_ F z) (tr_ (su_ l z) (tr_ (su_ d z) (tr_ (su_ Z z) (su_ az z))))))))
  exact At.res (.inl z) z (.cell z (bt.runAg 0 [vi 0, vu 0, vi 0, Value.slice none 0 0, vi 0, Value.slice none 0 0] ty30 z z z) (.tmp z .nil)) ⟨Value.slice none 0 0, Value.slice none 0 0, z, (se_ bu z z), (Or.inl ⟨z, z⟩), (Or.inl ⟨z, z⟩)⟩
 ·refine WC.condF' z am (sk (th (sq (rg (wY (yf fo83_0 z) z (wY (yL ty30 z z (W.cells 0 [vi c.X.Scale, vu c.X.Zero, vi c.X.Pos.Offset, (Value.slice ab ac ad), vi c.X.Neg.Offset, (Value.slice ae af ah)] z) z) z ?_))))))
  have aC := a7.f d z
  have aD := a8.f d z
  obtain ⟨⟨d9, ea⟩, bw, h⟩ := bnd h
  refine WL.call (vals := [ag [vi c.X.Scale, vu c.X.Zero, vi c.X.Pos.Offset, (Value.slice ab ac ad), vi c.X.Neg.Offset, (Value.slice ae af ah)]]) kok85 z z (c_ref08_Total (A := fun _ => True) (a0 := c.X) (Sl.all aC) (Sl.all aD) bw) ?_
  rintro dU dV ⟨rfl, bx⟩
  obtain ⟨ds, dz, dA, e⟩ := adoptE a6 (fun k => 1) bx
  refine wY (ym z) z (wY (yx z z) z (wY (yx z z) z (wY (ya z) z (wY (ya z) z (nl (th (sq (rg (wY (yf fo83_1 z) z ?_)))))))))
  have aE := W.st e z
  refine wY (yL ty30 z z (aE.cells 6 [vi c.Y.Scale, vu c.Y.Zero, vi c.Y.Pos.Offset, (Value.slice ai aj S), vi c.Y.Neg.Offset, (Value.slice T U V)] z) z) z ?_
  have bz := a9.f d z
  have aF := bz.f e z
  have bA := aA.f d z
  have aG := bA.f e z
  obtain ⟨⟨eb, ec⟩, bB, h⟩ := bnd h
  refine WL.call (vals := [ag [vi c.Y.Scale, vu c.Y.Zero, vi c.Y.Pos.Offset, (Value.slice ai aj S), vi c.Y.Neg.Offset, (Value.slice T U V)]]) kok85 z z (c_ref08_Total (A := fun _ => True) (a0 := c.Y) (Sl.all aF) (Sl.all aG) bB) ?_
  rintro dW dX ⟨rfl, bC⟩
  obtain ⟨bb, dB, dC, j⟩ := adoptE ds (fun k => 1) bC
  refine wY (ym z) z (wY (yx z z) z (wY (yx z z) z (wY (ya z) z (wY (ya z) z (nl (th (sq (sq (rg ?_)))))))))
  refine wY (ym z) z (wY (ym z) z (wY (Y.sub_u (a := 18446744073709551615) z z) z (wY (Y.gtr_u z z) z (nl (th ?_)))))
  rcases cnd h with ⟨an, h⟩ | ⟨an, h⟩
  ·refine WC.condT' z an (sq (rg (wY (yb (vals := []) (cells := [vi 0, vu 0, vi 0, Value.slice none 0 0, vi 0, Value.slice none 0 0]) (fe_ z) (by kernel_rfl)) z ?_)))
   have bD := ak.st F z
   have bE := bD.st l z
   have bF := bE.st d z
   have bG := bF.st e z
   have bH := bG.st j z
   refine WL.store (v := ag [vi 0, vu 0, vi 0, Value.slice none 0 0, vi 0, Value.slice none 0 0]) (cells' := [vi 0, vu 0, vi 0, Value.slice none 0 0, vi 0, Value.slice none 0 0]) ty30 z z bH z (le_ z) z z ?_
   intro bI bc bJ
   refine wY (ya z) z (nl (th (rt (At.thenR ?_))))
   obtain ⟨rfl, rfl⟩ := tup2 h
   have bK : Stp [13, 14] (Lg.O0 A) w bb bI := (tr_ (su_ D z) (tr_ (su_ r z) (tr_ (su_ m z) (tr_ (su_ F z) (tr_ (su_ l z) (tr_ (su_ d z) (tr_ (su_ e z) (tr_ (su_ j z) (su_ bc z)))))))))
   exact At.res (.inl z) z (.cell z (bJ.runAg 0 [vi 0, vu 0, vi 0, Value.slice none 0 0, vi 0, Value.slice none 0 0] ty30 z z z) (.tmp z .nil)) ⟨Value.slice none 0 0, Value.slice none 0 0, z, (se_ bK z z), (Or.inl ⟨z, z⟩), (Or.inl ⟨z, z⟩)⟩
  ·refine WC.condF' z an (sk (th (sq (rg (wY (yf fo83_0 z) z (wY (yf fo30_2 z) z ?_))))))
   have ao := aE.st j z
   refine wY (yL ty28 z z (ao.cells 2 [vi c.X.Pos.Offset, (Value.slice ab ac ad)] z) z) z (wY (yf fo83_1 z) z (wY (yf fo30_2 z) z (wY (yL ty28 z z (ao.cells 8 [vi c.Y.Pos.Offset, (Value.slice ai aj S)] z) z) z ?_)))
   have bL := aC.f e z
   have bM := bL.f j z
   have bO := aF.f j z
   obtain ⟨⟨G, ap⟩, bP, h⟩ := bnd h
   refine WL.call (vals := [ag [vi c.X.Pos.Offset, (Value.slice ab ac ad)], ag [vi c.Y.Pos.Offset, (Value.slice ai aj S)]]) kok86 z z (c_ref09_both (A := fun _ => True) (a0 := c.X.Pos) (a1 := c.Y.Pos) (Sl.all bM) (Sl.all bO) bP) ?_
   rintro dY bQ ⟨dt, rfl, bR, du⟩
   obtain ⟨bd, dD, aJ, t⟩ := adoptE bb (fun k => 1) bR
   have bS : Sl Rep.u bQ (frs bd) dt G.Counts := Sl.adoptF du (fun k hk => ⟨hk, z⟩) aJ
   refine wY (ym z) z (wY (yx z z) z (wY (yx z z) z (WL.alloc (O := bd) 15 [vi 0, Value.slice none 0 0] ty28 z z ?_)))
   intro bf dw dZ n bT
   have aH := bS.f n z
   have bU := h
   obtain ⟨H, I, J, rfl⟩ := aH.shape
   have h := bU
   refine WL.store (v := ag [vi G.Offset, (Value.slice H I J)]) (cells' := [vi G.Offset, (Value.slice H I J)]) ty28 z z bT z (le_ z) z z ?_
   intro d0 o bW
   refine wY (ya z) z (nl (th (sq (rg (wY (yf fo83_0 z) z (wY (yf fo30_3 z) z ?_))))))
   have bX := ao.st t z
   have bY := bX.st n z
   have aq := bY.st o z
   refine wY (yL ty28 z z (aq.cells 4 [vi c.X.Neg.Offset, (Value.slice ae af ah)] z) z) z (wY (yf fo83_1 z) z (wY (yf fo30_3 z) z (wY (yL ty28 z z (aq.cells 10 [vi c.Y.Neg.Offset, (Value.slice T U V)] z) z) z ?_)))
   have bZ := aD.f e z
   have b0 := bZ.f j z
   have b1 := b0.f t z
   have b2 := b1.f n z
   have b3 := b2.f o z
   have b4 := aG.f j z
   have b5 := b4.f t z
   have b6 := b5.f n z
   have b7 := b6.f o z
   obtain ⟨⟨K, ar⟩, b8, h⟩ := bnd h
   refine WL.call (vals := [ag [vi c.X.Neg.Offset, (Value.slice ae af ah)], ag [vi c.Y.Neg.Offset, (Value.slice T U V)]]) kok86 z z (c_ref09_both (A := fun _ => True) (a0 := c.X.Neg) (a1 := c.Y.Neg) (Sl.all b3) (Sl.all b7) b8) ?_
   rintro d1 b9 ⟨dx, rfl, ca, dy⟩
   obtain ⟨bg, dE, aK, C⟩ := adoptE dw (fun k => 1) ca
   have cb : Sl Rep.u b9 (frs bg) dx K.Counts := Sl.adoptF dy (fun k hk => ⟨hk, z⟩) aK
   refine wY (ym z) z (wY (yx z z) z (wY (yx z z) z (WL.alloc (O := bg) 16 [vi 0, Value.slice none 0 0] ty28 z z ?_)))
   intro bh bi d2 p cc
   have aI := cb.f p z
   have cd := h
   obtain ⟨L, M, P, rfl⟩ := aI.shape
   have h := cd
   refine WL.store (v := ag [vi K.Offset, (Value.slice L M P)]) (cells' := [vi K.Offset, (Value.slice L M P)]) ty28 z z cc z (le_ z) z z ?_
   intro ce q cf
   refine wY (ya z) z (nl (th (sq (sq (rg (wY (ym z) z (wY (Y.not z) z (wY (ym z) z ?_))))))))
   refine WL.cut 3 (σ := Unit) (fun _ w' => ce = w') (fun _ => [(4, pt cU 0), (6, pt cV 0), (11, pt bf 0), (13, pt bh 0), (66, vB ((!ap) || (!ar)))]) ?_ ?_
   ·refine WL.part 63 z (fun au => ?_) (fun au => ?_)
    ·refine WL.gS z z z z (WL.gS z z z z (wY (Y.pick (b := true) z z) z (WL.ren (v' := vB ((!ap) || (!ar))) 66 z (congrArg vB (orT au)) ?_)))
     exact nl (At.join () z (.cons z (.cons z (.cons z (.cons z (.cons z .nil))))))
    ·refine ug z z (wY (ym z) z (ug z z (wY (Y.not z) z (wY (Y.pick (b := false) z z) z (WL.ren (v' := vB ((!ap) || (!ar))) 66 z (congrArg vB (orF au)) ?_)))))
     exact nl (At.join () z (.cons z (.cons z (.cons z (.cons z (.cons z .nil))))))
   ·rintro _ _ rfl
    refine (show WL _ _ _ _ _ [(4, pt cU 0), (6, pt cV 0), (11, pt bf 0), (13, pt bh 0), (66, vB ((!ap) || (!ar)))] _ from ?_)
    refine nl (th ?_)
    rcases cnd h with ⟨av, h⟩ | ⟨av, h⟩
    ·refine WC.condT' z av (sq (rg (wY (yb (vals := []) (cells := [vi 0, vu 0, vi 0, Value.slice none 0 0, vi 0, Value.slice none 0 0]) (fe_ z) (by kernel_rfl)) z ?_)))
     have cg := ak.st F z
     have ch := cg.st l z
     have ci := ch.st d z
     have cj := ci.st e z
     have ck := cj.st j z
     have cl := ck.st t z
     have cm := cl.st n z
     have cn := cm.st o z
     have co := cn.st C z
     have cp := co.st p z
     have cq := cp.st q z
     refine WL.store (v := ag [vi 0, vu 0, vi 0, Value.slice none 0 0, vi 0, Value.slice none 0 0]) (cells' := [vi 0, vu 0, vi 0, Value.slice none 0 0, vi 0, Value.slice none 0 0]) ty30 z z cq z (le_ z) z z ?_
     intro cr bj cs
     refine wY (ya z) z (nl (th (rt (At.thenR ?_))))
     obtain ⟨rfl, rfl⟩ := tup2 h
     have ct : Stp [13, 14, 15, 16] (Lg.O0 A) w bi cr := (tr_ (su_ D z) (tr_ (su_ r z) (tr_ (su_ m z) (tr_ (su_ F z) (tr_ (su_ l z) (tr_ (su_ d z) (tr_ (su_ e z) (tr_ (su_ j z) (tr_ (su_ t z) (tr_ (su_ n z) (tr_ (su_ o z) (tr_ (su_ C z) (tr_ (su_ p z) (tr_ (su_ q z) (su_ bj z)))))))))))))))
     exact At.res (.inl z) z (.cell z (cs.runAg 0 [vi 0, vu 0, vi 0, Value.slice none 0 0, vi 0, Value.slice none 0 0] ty30 z z z) (.tmp z .nil)) ⟨Value.slice none 0 0, Value.slice none 0 0, z, (se_ ct z z), (Or.inl ⟨z, z⟩), (Or.inl ⟨z, z⟩)⟩
    ·refine WC.condF' z av (sk (th (sq (rg (wY (yf fo83_0 z) z (wY (yf fo30_0 z) z ?_))))))
     have cu := aq.st C z
     have cv := cu.st p z
     have aw := cv.st q z
     refine wY (yl ty3 z z (aw.cell 0 _ z)) z (wY (yf fo83_0 z) z (wY (yf fo30_1 z) z (wY (yl ty25 z z (aw.cell 1 _ z)) z (wY (yf fo83_1 z) z (wY (yf fo30_1 z) z (wY (yl ty25 z z (aw.cell 7 _ z)) z (wY (Y.add_u z z) z ?_)))))))
     have cw := bW.st C z
     have cx := cw.st p z
     have cy := cx.st q z
     refine wY (yL ty28 z z (cy.cells 0 [vi G.Offset, (Value.slice H I J)] z) z) z (wY (yL ty28 z z (cf.cells 0 [vi K.Offset, (Value.slice L M P)] z) z) z (wY (yb (vals := [(0, vi c.X.Scale), (1, vu (c.X.Zero + c.Y.Zero)), (2, ag [vi G.Offset, (Value.slice H I J)]), (3, ag [vi K.Offset, (Value.slice L M P)])]) (cells := [vi c.X.Scale, vu (c.X.Zero + c.Y.Zero), vi G.Offset, (Value.slice H I J), vi K.Offset, (Value.slice L M P)]) (fe_ z) (by kernel_rfl)) z ?_))
     have cz := ak.st F z
     have cA := cz.st l z
     have cC := cA.st d z
     have cD := cC.st e z
     have cE := cD.st j z
     have cF := cE.st t z
     have cG := cF.st n z
     have cH := cG.st o z
     have cI := cH.st C z
     have cJ := cI.st p z
     have cK := cJ.st q z
     refine WL.store (v := ag [vi c.X.Scale, vu (c.X.Zero + c.Y.Zero), vi G.Offset, (Value.slice H I J), vi K.Offset, (Value.slice L M P)]) (cells' := [vi c.X.Scale, vu (c.X.Zero + c.Y.Zero), vi G.Offset, (Value.slice H I J), vi K.Offset, (Value.slice L M P)]) ty30 z z cK z (le_ z) z z ?_
     intro cL aa cM
     refine wY (ya z) z (nl (th (rt ?_)))
     obtain ⟨rfl, rfl⟩ := tup2 h
     have ax : Stp [13, 14, 15, 16] (Lg.O0 A) w bi cL := (tr_ (su_ D z) (tr_ (su_ r z) (tr_ (su_ m z) (tr_ (su_ F z) (tr_ (su_ l z) (tr_ (su_ d z) (tr_ (su_ e z) (tr_ (su_ j z) (tr_ (su_ t z) (tr_ (su_ n z) (tr_ (su_ o z) (tr_ (su_ C z) (tr_ (su_ p z) (tr_ (su_ q z) (su_ aa z)))))))))))))))
     have cN := aH.f o z
     have cO := cN.f C z
     have cP := cO.f p z
     have cQ := cP.f q z
     have cR := cQ.f aa z
     have cS := aI.f q z
     have cT := cS.f aa z
     exact At.res (.inl z) z (.cell z (cM.runAg 0 [vi c.X.Scale, vu (c.X.Zero + c.Y.Zero), vi G.Offset, (Value.slice H I J), vi K.Offset, (Value.slice L M P)] ty30 z z z) (.tmp z .nil)) ⟨(Value.slice H I J), (Value.slice L M P), z, (se_ ax z z), (Sl.outF cR ax low0), (Sl.outF cT ax low0)⟩
theorem c_ref16_Together {A : Nat → Prop} {v0_3 : Value} {v0_5 : Value} {a0 : api_Hist} {v1_3 : Value} {v1_5 : Value} {a1 : api_Hist} {a2 : Int} {w : World} (hs0_3 : Sl Rep.u w A v0_3 a0.Pos.Counts) (hs0_5 : Sl Rep.u w A v0_5 a0.Neg.Counts) (hs1_3 : Sl Rep.u w A v1_3 a1.Pos.Counts) (hs1_5 : Sl Rep.u w A v1_5 a1.Neg.Counts) {r0 : api_Hist} {r1 : Bool} (h : ref16_Together a0 a1 a2 = some (r0, r1)) : Rets Try.prog 25 [ag [vi a0.Scale, vu a0.Zero, vi a0.Pos.Offset, v0_3, vi a0.Neg.Offset, v0_5], ag [vi a1.Scale, vu a1.Zero, vi a1.Pos.Offset, v1_3, vi a1.Neg.Offset, v1_5], vi a2] w (fun v w' => ∃ (bl : Value) (bm : Value), v = Value.tuple (List.toArray [ag [vi r0.Scale, vu r0.Zero, vi r0.Pos.Offset, bl, vi r0.Neg.Offset, bm], vB r1]) ∧ Ext w w' ∧ Sl Rep.u w' (fun k => w.heap.size ≤ k) bl r0.Pos.Counts ∧ Sl Rep.u w' (fun k => w.heap.size ≤ k) bm r0.Neg.Counts) := by
 unfold ref16_Together at h
 refine Rets.enter Try.func25 z z ?_
 have bn : Sl Rep.u w (imm (Lg.O0 A)) v0_3 a0.Pos.Counts := (Sl.start hs0_3)
 have bo : Sl Rep.u w (imm (Lg.O0 A)) v0_5 a0.Neg.Counts := (Sl.start hs0_5)
 have dB : Sl Rep.u w (imm (Lg.O0 A)) v1_3 a1.Pos.Counts := (Sl.start hs1_3)
 have dC : Sl Rep.u w (imm (Lg.O0 A)) v1_5 a1.Neg.Counts := (Sl.start hs1_5)
 refine (show WC _ _ _ _ [(0, ag [vi a0.Scale, vu a0.Zero, vi a0.Pos.Offset, v0_3, vi a0.Neg.Offset, v0_5]), (1, ag [vi a1.Scale, vu a1.Zero, vi a1.Pos.Offset, v1_3, vi a1.Neg.Offset, v1_5]), (2, vi a2)] _ from ?_)
 refine sq (rg ?_)
 have dD := h
 obtain ⟨bp, bq, br, rfl⟩ := bn.shape
 have h := dD
 have dE := h
 obtain ⟨bs, bt, bu, rfl⟩ := bo.shape
 have h := dE
 refine WL.box (O := (Lg.O0 A)) 11 [vi a0.Scale, vu a0.Zero, vi a0.Pos.Offset, (Value.slice bp bq br), vi a0.Neg.Offset, (Value.slice bs bt bu)] z z z ?_
 intro eY er eO I dF
 have bw := dB.i I z z
 have dG := h
 obtain ⟨bx, bz, bA, rfl⟩ := bw.shape
 have h := dG
 have bB := dC.i I z z
 have dH := h
 obtain ⟨bC, bD, bE, rfl⟩ := bB.shape
 have h := dH
 refine WL.box (O := er) 12 [vi a1.Scale, vu a1.Zero, vi a1.Pos.Offset, (Value.slice bx bz bA), vi a1.Neg.Offset, (Value.slice bC bD bE)] z z z ?_
 intro eZ es eP G dI
 refine WL.alloc (O := es) 13 [vi 0, vu 0, vi 0, Value.slice none 0 0, vi 0, Value.slice none 0 0] ty30 z z ?_
 intro Z et eQ C ah
 refine wY (ya z) z (nl (th (sq (rg ?_))))
 have dJ := dF.st G z
 have dK := dJ.st C z
 refine wY (yL ty30 z z (dK.cells 0 [vi a0.Scale, vu a0.Zero, vi a0.Pos.Offset, (Value.slice bp bq br), vi a0.Neg.Offset, (Value.slice bs bt bu)] z) z) z ?_
 have dL := dI.st C z
 refine wY (yL ty30 z z (dL.cells 0 [vi a1.Scale, vu a1.Zero, vi a1.Pos.Offset, (Value.slice bx bz bA), vi a1.Neg.Offset, (Value.slice bC bD bE)] z) z) z ?_
 have dM := bn.i I z z
 have dN := dM.i G z z
 have dO := dN.i C z z
 have dP := bo.i I z z
 have dQ := dP.i G z z
 have dR := dQ.i C z z
 have dS := bw.i G z z
 have dT := dS.i C z z
 have dU := bB.i G z z
 have dV := dU.i C z z
 obtain ⟨d, dW, h⟩ := bnd h
 refine WL.call (vals := [ag [vi a0.Scale, vu a0.Zero, vi a0.Pos.Offset, (Value.slice bp bq br), vi a0.Neg.Offset, (Value.slice bs bt bu)], ag [vi a1.Scale, vu a1.Zero, vi a1.Pos.Offset, (Value.slice bx bz bA), vi a1.Neg.Offset, (Value.slice bC bD bE)]]) kok53 z z (c_ref09_Level (A := fun _ => True) (a0 := a0) (a1 := a1) (Sl.all dO) (Sl.all dR) (Sl.all dT) (Sl.all dV) dW) ?_
 rintro eR ai ⟨eu, ew, ex, ey, rfl, dX, ez, eA, eB, eC⟩
 obtain ⟨aQ, eD, W, J⟩ := adoptE et (fun k => 1) dX
 have dY : Sl Rep.u ai (frs aQ) eu d.X.Pos.Counts := Sl.adoptF ez (fun k hk => ⟨hk, z⟩) W
 have dZ : Sl Rep.u ai (frs aQ) ew d.X.Neg.Counts := Sl.adoptF eA (fun k hk => ⟨hk, z⟩) W
 have d0 : Sl Rep.u ai (frs aQ) ex d.Y.Pos.Counts := Sl.adoptF eB (fun k hk => ⟨hk, z⟩) W
 have d1 : Sl Rep.u ai (frs aQ) ey d.Y.Neg.Counts := Sl.adoptF eC (fun k hk => ⟨hk, z⟩) W
 refine WL.alloc (O := aQ) 14 [vi 0, vu 0, vi 0, Value.slice none 0 0, vi 0, Value.slice none 0 0, vi 0, vu 0, vi 0, Value.slice none 0 0, vi 0, Value.slice none 0 0, vi 0] ty83 z z ?_
 intro ac aX eS r d2
 have bF := dY.f r z
 have d3 := h
 obtain ⟨aY, aZ, a3, rfl⟩ := bF.shape
 have h := d3
 have bG := dZ.f r z
 have d4 := h
 obtain ⟨a4, a5, a6, rfl⟩ := bG.shape
 have h := d4
 have bH := d0.f r z
 have bP := h
 obtain ⟨a7, a8, aj, rfl⟩ := bH.shape
 have h := bP
 have a9 := d1.f r z
 have bQ := h
 obtain ⟨ak, al, am, rfl⟩ := a9.shape
 have h := bQ
 refine WL.store (v := ag [vi d.X.Scale, vu d.X.Zero, vi d.X.Pos.Offset, (Value.slice aY aZ a3), vi d.X.Neg.Offset, (Value.slice a4 a5 a6), vi d.Y.Scale, vu d.Y.Zero, vi d.Y.Pos.Offset, (Value.slice a7 a8 aj), vi d.Y.Neg.Offset, (Value.slice ak al am), vi d.E]) (cells' := [vi d.X.Scale, vu d.X.Zero, vi d.X.Pos.Offset, (Value.slice aY aZ a3), vi d.X.Neg.Offset, (Value.slice a4 a5 a6), vi d.Y.Scale, vu d.Y.Zero, vi d.Y.Pos.Offset, (Value.slice a7 a8 aj), vi d.Y.Neg.Offset, (Value.slice ak al am), vi d.E]) ty83 z z d2 z (le_ z) z z ?_
 intro ba l an
 refine nl (th (sq (sq (rg (wY (yf fo83_2 z) z (wY (yl ty38 z z (an.cell 12 _ z)) z (wY (Y.neq_i z z) z (nl (th ?_)))))))))
 rcases cnd h with ⟨ao, h⟩ | ⟨ao, h⟩
 ·refine WC.condT' z ao (sq (rg (wY (yb (vals := []) (cells := [vi 0, vu 0, vi 0, Value.slice none 0 0, vi 0, Value.slice none 0 0]) (fe_ z) (by kernel_rfl)) z ?_)))
  have bR := ah.st J z
  have bS := bR.st r z
  have bT := bS.st l z
  refine WL.store (v := ag [vi 0, vu 0, vi 0, Value.slice none 0 0, vi 0, Value.slice none 0 0]) (cells' := [vi 0, vu 0, vi 0, Value.slice none 0 0, vi 0, Value.slice none 0 0]) ty30 z z bT z (le_ z) z z ?_
  intro bU bI bW
  refine wY (ya z) z (nl (th (rt (At.thenR ?_))))
  obtain ⟨rfl, rfl⟩ := tup2 h
  have bX : Stp [13, 14] (Lg.O0 A) w aX bU := (tr_ (su_ I z) (tr_ (su_ G z) (tr_ (su_ C z) (tr_ (su_ J z) (tr_ (su_ r z) (tr_ (su_ l z) (su_ bI z)))))))
  exact At.res (.inl z) z (.cell z (bW.runAg 0 [vi 0, vu 0, vi 0, Value.slice none 0 0, vi 0, Value.slice none 0 0] ty30 z z z) (.tmp z .nil)) ⟨Value.slice none 0 0, Value.slice none 0 0, z, (se_ bX z z), (Or.inl ⟨z, z⟩), (Or.inl ⟨z, z⟩)⟩
 ·refine WC.condF' z ao (sk (th (sq (sq (rg (wY (yf fo83_0 z) z (wY (yf fo30_0 z) z (wY (yl ty3 z z (an.cell 0 _ z)) z (wY (ya z) z ?_)))))))))
  refine nl (th (WC.block ?_))
  obtain ⟨bJ, h, ap⟩ := flow1 h
  obtain ⟨bK, h⟩ := loop_some h
  refine WC.joinB 0 (σ := Own) (fun x w' => bJ = .go () ∧ Stp [15, 16, 17] aX ba x w') (fun x => [(6, pt Z 0)]) ?_ ?_
  ·refine WC.loop (σ := (Int × Own)) (fun x k w' => loopN k (ref16_Together_lp1 a2 d) x.1 = some bJ ∧ Stp [15, 16, 17] aX ba x.2 w') (fun x => [(2, vi a2), (6, pt Z 0), (8, pt ac 0), (9, vi x.1)]) (d.X.Scale, aX) bK (.cons z (.cons z (.cons z (.cons z .nil)))) ⟨h, (sr_ _ _ _)⟩ ?_
   rintro ⟨M, bL⟩ bK eE ⟨h, m⟩
   obtain ⟨d5, eT, rfl, h, aa⟩ := rnd1 h
   unfold ref16_Together_lp1 at h
   try dsimp only at h m
   refine (show WC _ _ _ _ [(2, vi a2), (6, pt Z 0), (8, pt ac 0), (9, vi M)] _ from ?_)
   refine sq (sq (rg (wY (ym z) z (wY (Y.geq_i z z) z (nl (th ?_))))))
   rcases cnd h with ⟨aq, h⟩ | ⟨aq, h⟩
   ·refine WC.condT' z aq (sk (th (sq (WC.block (sq (rg (wY (yf fo83_0 z) z ?_)))))))
    have ar := an.st m z
    refine wY (yL ty30 z z (ar.cells 0 [vi d.X.Scale, vu d.X.Zero, vi d.X.Pos.Offset, (Value.slice aY aZ a3), vi d.X.Neg.Offset, (Value.slice a4 a5 a6)] z) z) z (wY (yf fo83_0 z) z (wY (yf fo30_0 z) z (wY (yl ty3 z z (ar.cell 0 _ z)) z (wY (ym z) z (wY (Y.sub_i z z) z ?_)))))
    have bY := bF.f l z
    have bZ := bY.f m z
    have b0 := bG.f l z
    have b1 := b0.f m z
    obtain ⟨⟨e, eU⟩, b2, h⟩ := bnd h
    refine WL.call (vals := [ag [vi d.X.Scale, vu d.X.Zero, vi d.X.Pos.Offset, (Value.slice aY aZ a3), vi d.X.Neg.Offset, (Value.slice a4 a5 a6)], vi (w64 (d.X.Scale - M))]) kok54 z z (c_ref08_Down (A := fun _ => True) (a0 := d.X) (Sl.all bZ) (Sl.all b1) b2) ?_
    rintro eF bb ⟨d6, d7, rfl, b3, d8, d9⟩
    obtain ⟨aS, en, ad, D⟩ := adoptE bL (fun k => 1) b3
    have b4 : Sl Rep.u bb (frs aS) d6 e.Pos.Counts := Sl.adoptF d8 (fun k hk => ⟨hk, z⟩) ad
    have b5 : Sl Rep.u bb (frs aS) d7 e.Neg.Counts := Sl.adoptF d9 (fun k hk => ⟨hk, z⟩) ad
    refine wY (ym z) z (wY (yx z z) z (wY (yx z z) z (WL.alloc (O := aS) 15 [vi 0, vu 0, vi 0, Value.slice none 0 0, vi 0, Value.slice none 0 0] ty30 z z ?_)))
    intro eV ea eG n b6
    have bc := b4.f n z
    have b7 := h
    obtain ⟨au, av, aw, rfl⟩ := bc.shape
    have h := b7
    have bd := b5.f n z
    have b8 := h
    obtain ⟨ax, ay, az, rfl⟩ := bd.shape
    have h := b8
    refine WL.store (v := ag [vi e.Scale, vu e.Zero, vi e.Pos.Offset, (Value.slice au av aw), vi e.Neg.Offset, (Value.slice ax ay az)]) (cells' := [vi e.Scale, vu e.Zero, vi e.Pos.Offset, (Value.slice au av aw), vi e.Neg.Offset, (Value.slice ax ay az)]) ty30 z z b6 z (le_ z) z z ?_
    intro eH o b9
    refine wY (ya z) z (nl (th (sq (rg (wY (yf fo83_1 z) z ?_)))))
    have ca := ar.st D z
    have cb := ca.st n z
    have bf := cb.st o z
    refine wY (yL ty30 z z (bf.cells 6 [vi d.Y.Scale, vu d.Y.Zero, vi d.Y.Pos.Offset, (Value.slice a7 a8 aj), vi d.Y.Neg.Offset, (Value.slice ak al am)] z) z) z (wY (yf fo83_0 z) z (wY (yf fo30_0 z) z (wY (yl ty3 z z (bf.cell 0 _ z)) z (wY (ym z) z (wY (Y.sub_i z z) z ?_)))))
    have cc := bH.f l z
    have cd := cc.f m z
    have ce := cd.f D z
    have cf := ce.f n z
    have cg := cf.f o z
    have ch := a9.f l z
    have ci := ch.f m z
    have cj := ci.f D z
    have ck := cj.f n z
    have cl := ck.f o z
    obtain ⟨⟨j, eW⟩, cm, h⟩ := bnd h
    refine WL.call (vals := [ag [vi d.Y.Scale, vu d.Y.Zero, vi d.Y.Pos.Offset, (Value.slice a7 a8 aj), vi d.Y.Neg.Offset, (Value.slice ak al am)], vi (w64 (d.X.Scale - M))]) kok54 z z (c_ref08_Down (A := fun _ => True) (a0 := d.Y) (Sl.all cg) (Sl.all cl) cm) ?_
    rintro eI bg ⟨eb, ec, rfl, cn, ed, ee⟩
    obtain ⟨aT, eo, ae, F⟩ := adoptE ea (fun k => 1) cn
    have co : Sl Rep.u bg (frs aT) eb j.Pos.Counts := Sl.adoptF ed (fun k hk => ⟨hk, z⟩) ae
    have cp : Sl Rep.u bg (frs aT) ec j.Neg.Counts := Sl.adoptF ee (fun k hk => ⟨hk, z⟩) ae
    refine wY (ym z) z (wY (yx z z) z (wY (yx z z) z (WL.alloc (O := aT) 16 [vi 0, vu 0, vi 0, Value.slice none 0 0, vi 0, Value.slice none 0 0] ty30 z z ?_)))
    intro eX ef eJ p cq
    have bh := co.f p z
    have cr := h
    obtain ⟨aA, aC, aD, rfl⟩ := bh.shape
    have h := cr
    have bi := cp.f p z
    have cs := h
    obtain ⟨aE, aF, aG, rfl⟩ := bi.shape
    have h := cs
    refine WL.store (v := ag [vi j.Scale, vu j.Zero, vi j.Pos.Offset, (Value.slice aA aC aD), vi j.Neg.Offset, (Value.slice aE aF aG)]) (cells' := [vi j.Scale, vu j.Zero, vi j.Pos.Offset, (Value.slice aA aC aD), vi j.Neg.Offset, (Value.slice aE aF aG)]) ty30 z z cq z (le_ z) z z ?_
    intro eK q ct
    refine wY (ya z) z (nl (th (sq (rg ?_))))
    have cu := b9.st F z
    have cv := cu.st p z
    have cw := cv.st q z
    refine wY (yL ty30 z z (cw.cells 0 [vi e.Scale, vu e.Zero, vi e.Pos.Offset, (Value.slice au av aw), vi e.Neg.Offset, (Value.slice ax ay az)] z) z) z (wY (yL ty30 z z (ct.cells 0 [vi j.Scale, vu j.Zero, vi j.Pos.Offset, (Value.slice aA aC aD), vi j.Neg.Offset, (Value.slice aE aF aG)] z) z) z ?_)
    have cx := bc.f o z
    have cy := cx.f F z
    have cz := cy.f p z
    have cA := cz.f q z
    have cC := bd.f o z
    have cD := cC.f F z
    have cE := cD.f p z
    have cF := cE.f q z
    have cG := bh.f q z
    have cH := bi.f q z
    obtain ⟨⟨c, K⟩, cI, h⟩ := bnd h
    refine WL.call (vals := [ag [vi e.Scale, vu e.Zero, vi e.Pos.Offset, (Value.slice au av aw), vi e.Neg.Offset, (Value.slice ax ay az)], ag [vi j.Scale, vu j.Zero, vi j.Pos.Offset, (Value.slice aA aC aD), vi j.Neg.Offset, (Value.slice aE aF aG)]]) kok55 z z (c_ref09_Merge (A := fun _ => True) (a0 := e) (a1 := j) (Sl.all cA) (Sl.all cF) (Sl.all cG) (Sl.all cH) cI) ?_
    rintro eL bj ⟨eg, eh, rfl, cJ, ei, ej⟩
    obtain ⟨aU, ep, af, L⟩ := adoptE ef (fun k => 1) cJ
    have cK : Sl Rep.u bj (frs aU) eg c.Pos.Counts := Sl.adoptF ei (fun k hk => ⟨hk, z⟩) af
    have cL : Sl Rep.u bj (frs aU) eh c.Neg.Counts := Sl.adoptF ej (fun k hk => ⟨hk, z⟩) af
    refine wY (ym z) z (wY (yx z z) z (wY (yx z z) z (WL.alloc (O := aU) 17 [vi 0, vu 0, vi 0, Value.slice none 0 0, vi 0, Value.slice none 0 0] ty30 z z ?_)))
    intro aH aW eM H cM
    have aI := cK.f H z
    have cN := h
    obtain ⟨P, Q, S, rfl⟩ := aI.shape
    have h := cN
    have aJ := cL.f H z
    have cO := h
    obtain ⟨T, U, V, rfl⟩ := aJ.shape
    have h := cO
    refine WL.store (v := ag [vi c.Scale, vu c.Zero, vi c.Pos.Offset, (Value.slice P Q S), vi c.Neg.Offset, (Value.slice T U V)]) (cells' := [vi c.Scale, vu c.Zero, vi c.Pos.Offset, (Value.slice P Q S), vi c.Neg.Offset, (Value.slice T U V)]) ty30 z z cM z (le_ z) z z ?_
    intro bk t aK
    refine wY (ya z) z (nl (th (sq (sq (rg (wY (ym z) z (wY (Y.eql_i z z) z (nl (th ?_)))))))))
    rcases cnd h with ⟨aL, h⟩ | ⟨aL, h⟩
    ·refine WC.condT' z aL (sq (rg (wY (yb (vals := []) (cells := [vi 0, vu 0, vi 0, Value.slice none 0 0, vi 0, Value.slice none 0 0]) (fe_ z) (by kernel_rfl)) z ?_)))
     have cP := ah.st J z
     have cQ := cP.st r z
     have cR := cQ.st l z
     have cS := cR.st m z
     have cT := cS.st D z
     have cU := cT.st n z
     have cV := cU.st o z
     have cW := cV.st F z
     have cX := cW.st p z
     have cY := cX.st q z
     have cZ := cY.st L z
     have c0 := cZ.st H z
     have c1 := c0.st t z
     refine WL.store (v := ag [vi 0, vu 0, vi 0, Value.slice none 0 0, vi 0, Value.slice none 0 0]) (cells' := [vi 0, vu 0, vi 0, Value.slice none 0 0, vi 0, Value.slice none 0 0]) ty30 z z c1 z (le_ z) z z ?_
     intro c2 bM c3
     refine wY (ya z) z (nl (th (rt (At.thenR (At.inBlockR (At.thenR (At.loopR ?_)))))))
     have h := outr1 h aa ap
     refine At.joinBR (At.inBlockR (At.thenR ?_))
     obtain ⟨rfl, rfl⟩ := tup2 h
     have c4 : Stp [13, 14, 15, 16, 17] (Lg.O0 A) w aW c2 := (tr_ (su_ I z) (tr_ (su_ G z) (tr_ (su_ C z) (tr_ (su_ J z) (tr_ (su_ r z) (tr_ (su_ l z) (tr_ (su_ m z) (tr_ (su_ D z) (tr_ (su_ n z) (tr_ (su_ o z) (tr_ (su_ F z) (tr_ (su_ p z) (tr_ (su_ q z) (tr_ (su_ L z) (tr_ (su_ H z) (tr_ (su_ t z) (su_ bM z)))))))))))))))))
     exact At.res (.inl z) z (.cell z (c3.runAg 0 [vi 0, vu 0, vi 0, Value.slice none 0 0, vi 0, Value.slice none 0 0] ty30 z z z) (.tmp z .nil)) ⟨Value.slice none 0 0, Value.slice none 0 0, z, (se_ c4 z z), (Or.inl ⟨z, z⟩), (Or.inl ⟨z, z⟩)⟩
    ·refine WC.condF' z aL (sk (th (sq (rg (wY (ym z) z (wY (Y.eql_i z z) z (wY (ym z) z ?_)))))))
     refine WL.cut 7 (σ := Unit) (fun _ w' => bk = w') (fun _ => [(2, vi a2), (6, pt Z 0), (8, pt ac 0), (9, vi M), (14, pt aH 0), (70, vB ((decide (K = 0)) && (decide ((c.Pos.Counts.length : Int) ≤ a2))))]) ?_ ?_
     ·refine WL.part 63 z (fun aM => ?_) (fun aM => ?_)
      ·refine ug z z (wY (yf fo30_2 z) z (ug z z (wY (yf fo28_1 z) z (ug z z (wY (yl ty26 z z (aK.cell 3 _ z)) z (ug z z ?_))))))
       have c5 := aI.f t z
       refine wY (Y.len ty26 z c5) z (ug z z (wY (ym z) z (ug z z (wY (Y.leq_i z z) z (wY (Y.pick (b := true) z z) z (WL.ren (v' := vB ((decide (K = 0)) && (decide ((c.Pos.Counts.length : Int) ≤ a2)))) 70 z (congrArg vB (andT aM)) ?_))))))
       exact nl (At.join () z (.cons z (.cons z (.cons z (.cons z (.cons z (.cons z .nil)))))))
      ·refine WL.gS z z z z (WL.gS z z z z (WL.gS z z z z (WL.gS z z z z (WL.gS z z z z (WL.gS z z z z (wY (Y.pick (b := false) z z) z (WL.ren (v' := vB ((decide (K = 0)) && (decide ((c.Pos.Counts.length : Int) ≤ a2)))) 70 z (congrArg vB (andF aM)) ?_)))))))
       exact nl (At.join () z (.cons z (.cons z (.cons z (.cons z (.cons z (.cons z .nil)))))))
     ·rintro _ _ rfl
      refine (show WL _ _ _ _ _ [(2, vi a2), (6, pt Z 0), (8, pt ac 0), (9, vi M), (14, pt aH 0), (70, vB ((decide (K = 0)) && (decide ((c.Pos.Counts.length : Int) ≤ a2))))] _ from ?_)
      refine wY (ym z) z ?_
      refine WL.cut 7 (σ := Unit) (fun _ w' => bk = w') (fun _ => [(2, vi a2), (6, pt Z 0), (8, pt ac 0), (9, vi M), (14, pt aH 0), (78, vB (((decide (K = 0)) && (decide ((c.Pos.Counts.length : Int) ≤ a2))) && (decide ((c.Neg.Counts.length : Int) ≤ a2))))]) ?_ ?_
      ·refine WL.part 71 z (fun aN => ?_) (fun aN => ?_)
       ·refine ug z z (wY (yf fo30_3 z) z (ug z z (wY (yf fo28_1 z) z (ug z z (wY (yl ty26 z z (aK.cell 5 _ z)) z (ug z z ?_))))))
        have c6 := aJ.f t z
        refine wY (Y.len ty26 z c6) z (ug z z (wY (ym z) z (ug z z (wY (Y.leq_i z z) z (wY (Y.pick (b := true) z z) z (WL.ren (v' := vB (((decide (K = 0)) && (decide ((c.Pos.Counts.length : Int) ≤ a2))) && (decide ((c.Neg.Counts.length : Int) ≤ a2)))) 78 z (congrArg vB (andT aN)) ?_))))))
        exact nl (At.join () z (.cons z (.cons z (.cons z (.cons z (.cons z (.cons z .nil)))))))
       ·refine WL.gS z z z z (WL.gS z z z z (WL.gS z z z z (WL.gS z z z z (WL.gS z z z z (WL.gS z z z z (wY (Y.pick (b := false) z z) z (WL.ren (v' := vB (((decide (K = 0)) && (decide ((c.Pos.Counts.length : Int) ≤ a2))) && (decide ((c.Neg.Counts.length : Int) ≤ a2)))) 78 z (congrArg vB (andF aN)) ?_)))))))
        exact nl (At.join () z (.cons z (.cons z (.cons z (.cons z (.cons z (.cons z .nil)))))))
      ·rintro _ _ rfl
       refine (show WL _ _ _ _ _ [(2, vi a2), (6, pt Z 0), (8, pt ac 0), (9, vi M), (14, pt aH 0), (78, vB (((decide (K = 0)) && (decide ((c.Pos.Counts.length : Int) ≤ a2))) && (decide ((c.Neg.Counts.length : Int) ≤ a2))))] _ from ?_)
       refine nl (th ?_)
       rcases cnd h with ⟨aO, h⟩ | ⟨aO, h⟩
       ·refine WC.condT' z aO (sq (rg (wY (yL ty30 z z (aK.cells 0 [vi c.Scale, vu c.Zero, vi c.Pos.Offset, (Value.slice P Q S), vi c.Neg.Offset, (Value.slice T U V)] z) z) z ?_)))
        have c7 := ah.st J z
        have c8 := c7.st r z
        have c9 := c8.st l z
        have da := c9.st m z
        have db := da.st D z
        have dc := db.st n z
        have dd := dc.st o z
        have de := dd.st F z
        have df := de.st p z
        have dg := df.st q z
        have dh := dg.st L z
        have di := dh.st H z
        have dj := di.st t z
        refine WL.store (v := ag [vi c.Scale, vu c.Zero, vi c.Pos.Offset, (Value.slice P Q S), vi c.Neg.Offset, (Value.slice T U V)]) (cells' := [vi c.Scale, vu c.Zero, vi c.Pos.Offset, (Value.slice P Q S), vi c.Neg.Offset, (Value.slice T U V)]) ty30 z z dj z (le_ z) z z ?_
        intro dk ab dl
        refine wY (ya z) z (nl (th (rt (At.inBlockR (At.thenR (At.loopR ?_))))))
        have h := outr1 h aa ap
        refine At.joinBR (At.inBlockR (At.thenR ?_))
        obtain ⟨rfl, rfl⟩ := tup2 h
        have aP : Stp [13, 14, 15, 16, 17] (Lg.O0 A) w aW dk := (tr_ (su_ I z) (tr_ (su_ G z) (tr_ (su_ C z) (tr_ (su_ J z) (tr_ (su_ r z) (tr_ (su_ l z) (tr_ (su_ m z) (tr_ (su_ D z) (tr_ (su_ n z) (tr_ (su_ o z) (tr_ (su_ F z) (tr_ (su_ p z) (tr_ (su_ q z) (tr_ (su_ L z) (tr_ (su_ H z) (tr_ (su_ t z) (su_ ab z)))))))))))))))))
        have dm := aI.f t z
        have dn := dm.f ab z
        have dp := aJ.f t z
        have dr := dp.f ab z
        exact At.res (.inl z) z (.cell z (dl.runAg 0 [vi c.Scale, vu c.Zero, vi c.Pos.Offset, (Value.slice P Q S), vi c.Neg.Offset, (Value.slice T U V)] ty30 z z z) (.tmp z .nil)) ⟨(Value.slice P Q S), (Value.slice T U V), z, (se_ aP z z), (Sl.outF dn aP low0), (Sl.outF dr aP low0)⟩
       ·refine WC.condF' z aO (sk (At.inBlock (th (rg (wY (ym z) z (wY (Y.sub_i z z) z ?_))))))
        obtain ⟨ek, ds, h⟩ := lt1 h
        refine WL.yE (ya z) (congrArg vi ds.symm) z (nl ?_)
        exact At.round (ek, aW) d5 (Nat.lt_succ_self _) ⟨next1 h aa, (tr_ (su_ m z) (tr_ (su_ D z) (tr_ (su_ n z) (tr_ (su_ o z) (tr_ (su_ F z) (tr_ (su_ p z) (tr_ (su_ q z) (tr_ (su_ L z) (tr_ (su_ H z) (su_ t z))))))))))⟩ (.cons z (.cons z (.cons z (.cons z .nil))))
   ·refine WC.condF' z aq (WC.exit (At.thenX (At.loopX ?_)))
    exact At.hitB (σ := Own) bL ⟨brk1 h aa, (su_ m z)⟩ (.cons z .nil)
  ·rintro em eN ⟨rfl, aR⟩
   replace h := flowK_go ap
   refine (show At _ _ _ [(6, pt Z 0)] _ from ?_)
   refine At.inBlockHit (th (sq (rg (wY (yb (vals := []) (cells := [vi 0, vu 0, vi 0, Value.slice none 0 0, vi 0, Value.slice none 0 0]) (fe_ z) (by kernel_rfl)) z ?_))))
   have dt := ah.st J z
   have du := dt.st r z
   have dw := du.st l z
   have dx := dw.st aR z
   refine WL.store (v := ag [vi 0, vu 0, vi 0, Value.slice none 0 0, vi 0, Value.slice none 0 0]) (cells' := [vi 0, vu 0, vi 0, Value.slice none 0 0, vi 0, Value.slice none 0 0]) ty30 z z dx z (le_ z) z z ?_
   intro dy bO dz
   refine wY (ya z) z (nl (th (rt ?_)))
   obtain ⟨rfl, rfl⟩ := tup2 h
   have dA : Stp [13, 14, 15, 16, 17] (Lg.O0 A) w em dy := (tr_ (su_ I z) (tr_ (su_ G z) (tr_ (su_ C z) (tr_ (su_ J z) (tr_ (su_ r z) (tr_ (su_ l z) (tr_ (su_ aR z) (su_ bO z))))))))
   exact At.res (.inl z) z (.cell z (dz.runAg 0 [vi 0, vu 0, vi 0, Value.slice none 0 0, vi 0, Value.slice none 0 0] ty30 z z z) (.tmp z .nil)) ⟨Value.slice none 0 0, Value.slice none 0 0, z, (se_ dA z z), (Or.inl ⟨z, z⟩), (Or.inl ⟨z, z⟩)⟩
theorem c_ref08_SameSide {A : Nat → Prop} {v0_1 : Value} {a0 : api_Side} {v1_1 : Value} {a1 : api_Side} {w : World} (hs0_1 : Sl Rep.u w A v0_1 a0.Counts) (hs1_1 : Sl Rep.u w A v1_1 a1.Counts) {r0 : Bool} (h : ref08_SameSide a0 a1 = some r0) : Rets Try.prog 56 [ag [vi a0.Offset, v0_1], ag [vi a1.Offset, v1_1]] w (fun v w' => v = vB r0 ∧ Ext w w') := by
 unfold ref08_SameSide at h
 refine Rets.enter Try.func56 z z ?_
 have m : Sl Rep.u w (imm (Lg.O0 A)) v0_1 a0.Counts := (Sl.start hs0_1)
 have aa : Sl Rep.u w (imm (Lg.O0 A)) v1_1 a1.Counts := (Sl.start hs1_1)
 refine (show WC _ _ _ _ [(0, ag [vi a0.Offset, v0_1]), (1, ag [vi a1.Offset, v1_1])] _ from ?_)
 refine sq (rg ?_)
 have ab := h
 obtain ⟨aK, aL, aM, rfl⟩ := m.shape
 have h := ab
 refine WL.box (O := (Lg.O0 A)) 11 [vi a0.Offset, (Value.slice aK aL aM)] z z z ?_
 intro H aN a4 e ac
 have n := aa.i e z z
 have ad := h
 obtain ⟨aO, aP, aQ, rfl⟩ := n.shape
 have h := ad
 refine WL.box (O := aN) 12 [vi a1.Offset, (Value.slice aO aP aQ)] z z z ?_
 intro I J l c o
 refine wY (ya z) z (nl (th (sq (sq (rg (wY (yf fo28_0 z) z ?_))))))
 have p := ac.st c z
 refine wY (yl ty3 z z (p.cell 0 _ z)) z (wY (yf fo28_0 z) z (wY (yl ty3 z z (o.cell 0 _ z)) z (wY (Y.neq_i z z) z (wY (ym z) z ?_))))
 refine WL.cut 8 (σ := Unit) (fun _ w' => l = w') (fun _ => [(2, pt H 0), (3, pt I 0), (19, vB ((!decide (a0.Offset = a1.Offset)) || (!decide ((a0.Counts.length : Int) = (a1.Counts.length : Int)))))]) ?_ ?_
 ·refine WL.part 11 z (fun q => ?_) (fun q => ?_)
  ·refine WL.gS z z z z (WL.gS z z z z (WL.gS z z z z (WL.gS z z z z (WL.gS z z z z (WL.gS z z z z (WL.gS z z z z (wY (Y.pick (b := true) z z) z (WL.ren (v' := vB ((!decide (a0.Offset = a1.Offset)) || (!decide ((a0.Counts.length : Int) = (a1.Counts.length : Int))))) 19 z (congrArg vB (orT q)) ?_))))))))
   exact nl (At.join () z (.cons z (.cons z (.cons z .nil))))
  ·refine ug z z (wY (yf fo28_1 z) z (ug z z (wY (yl ty26 z z (p.cell 1 _ z)) z (ug z z ?_))))
   have ae := m.i e z z
   have af := ae.i c z z
   refine wY (Y.len ty26 z af) z (ug z z (wY (yf fo28_1 z) z (ug z z (wY (yl ty26 z z (o.cell 1 _ z)) z (ug z z ?_)))))
   have ah := n.i c z z
   refine wY (Y.len ty26 z ah) z (ug z z (wY (Y.neq_i z z) z (wY (Y.pick (b := false) z z) z (WL.ren (v' := vB ((!decide (a0.Offset = a1.Offset)) || (!decide ((a0.Counts.length : Int) = (a1.Counts.length : Int))))) 19 z (congrArg vB (orF q)) ?_))))
   exact nl (At.join () z (.cons z (.cons z (.cons z .nil))))
 ·rintro _ _ rfl
  refine (show WL _ _ _ _ _ [(2, pt H 0), (3, pt I 0), (19, vB ((!decide (a0.Offset = a1.Offset)) || (!decide ((a0.Counts.length : Int) = (a1.Counts.length : Int)))))] _ from ?_)
  refine nl (th ?_)
  rcases cnd h with ⟨r, h⟩ | ⟨r, h⟩
  ·refine WC.condT' z r (sq (rg (wY (ya z) z (nl (th (rt (At.thenR ?_)))))))
   obtain rfl := some1 h
   have ai : Stp [] (Lg.O0 A) w J l := (tr_ (su_ e z) (su_ c z))
   exact At.res (.inl z) z (.tmp z .nil) ⟨z, (se_ ai z z)⟩
  ·refine WC.condF' z r (sk (th (sq (sq (rg (wY (ya z) z (nl (th (WC.block ?_)))))))))
   obtain ⟨W, h, L⟩ := flow1 h
   obtain ⟨Z, h⟩ := loop_some h
   refine WC.joinB 0 (σ := Own) (fun x w' => W = .go () ∧ Stp [] J l x w') (fun x => []) ?_ ?_
   ·refine WC.loop (σ := (Int × Own)) (fun x k w' => loopN k (ref08_SameSide_lp1 a0 a1) x.1 = some W ∧ Stp [] J l x.2 w') (fun x => [(2, pt H 0), (3, pt I 0), (5, vi x.1)]) (0, J) Z (.cons z (.cons z (.cons z .nil))) ⟨h, (sr_ _ _ _)⟩ ?_
    rintro ⟨aR, K⟩ Z a5 ⟨h, d⟩
    obtain ⟨aS, a8, rfl, h, t⟩ := rnd1 h
    unfold ref08_SameSide_lp1 at h
    try dsimp only at h d
    refine (show WC _ _ _ _ [(2, pt H 0), (3, pt I 0), (5, vi aR)] _ from ?_)
    refine sq (sq (rg (wY (ym z) z (wY (yf fo28_1 z) z ?_))))
    have M := p.st d z
    refine wY (yl ty26 z z (M.cell 1 _ z)) z ?_
    have aj := m.i e z z
    have ak := aj.i c z z
    have P := ak.i d z z
    refine wY (Y.len ty26 z P) z (wY (Y.lss_i z z) z (nl (th ?_)))
    rcases cnd h with ⟨C, h⟩ | ⟨C, h⟩
    ·refine WC.condT' z C (sk (th (sq (WC.block (sq (WC.draw 10 K fmix (by kernel_rfl) ?_))))))
     intro al j
     refine WS.y (yf fo28_1 z) z ?_
     have am := M.st j z
     refine WS.y (yl ty26 z z (am.cell 1 _ z)) z (WS.y (ym z) z ?_)
     obtain ⟨aT, an, h⟩ := bnd h
     have ao := P.i j z z
     obtain ⟨a9, aY, aZ, a6, ap, aq, ar, D, Q, au⟩ := Sl.at2 ao an
     obtain rfl := Q
     replace D : CellsAt _ _ _ [vu aT] := D
     have S := CAt.imm D au
     refine WS.y (Y.indexAddr ty26 ty25 z ap z aq ar) z (WS.y (yl ty25 z z S.at_) z (WS.y (yf fo28_1 z) z ?_))
     have av := o.st d z
     have aw := av.st j z
     refine WS.y (yl ty26 z z (aw.cell 1 _ z)) z (WS.y (ym z) z ?_)
     obtain ⟨aU, ax, h⟩ := bnd h
     have ay := n.i c z z
     have az := ay.i d z z
     have aA := az.i j z z
     obtain ⟨ba, a2, a3, a7, aC, aD, aE, F, T, aF⟩ := Sl.at2 aA ax
     obtain rfl := T
     replace F : CellsAt _ _ _ [vu aU] := F
     have U := CAt.imm F aF
     refine WS.y (Y.indexAddr ty26 ty25 z aC z aD aE) z (WS.y (yl ty25 z z U.at_) z (WS.tail (wY (Y.neq_u z z) z (nl (th ?_)))))
     rcases cnd h with ⟨G, h⟩ | ⟨G, h⟩
     ·refine WC.condT' z G (sq (rg (wY (ya z) z (nl (th (rt (At.inBlockR (At.thenR (At.loopR ?_)))))))))
      have h := outr1 h t L
      refine At.joinBR (At.inBlockR (At.thenR ?_))
      obtain rfl := some1 h
      have aG : Stp [] (Lg.O0 A) w K al := (tr_ (su_ e z) (tr_ (su_ c z) (tr_ (su_ d z) (su_ j z))))
      exact At.res (.inl z) z (.tmp z .nil) ⟨z, (se_ aG z z)⟩
     ·refine WC.condF' z G (sk (At.inBlock (th (rg (wY (ym z) z (wY (Y.add_i z z) z ?_))))))
      obtain ⟨aW, aH, h⟩ := lt1 h
      refine WL.yE (ya z) (congrArg vi aH.symm) z (nl ?_)
      exact At.round (aW, K) aS (Nat.lt_succ_self _) ⟨next1 h t, (tr_ (su_ d z) (su_ j z))⟩ (.cons z (.cons z (.cons z .nil)))
    ·refine WC.condF' z C (WC.exit (At.thenX (At.loopX ?_)))
     exact At.hitB (σ := Own) K ⟨brk1 h t, (su_ d z)⟩ .nil
   ·rintro aX aI ⟨rfl, V⟩
    replace h := flowK_go L
    refine (show At _ _ _ [] _ from ?_)
    refine At.inBlockHit (th (sq (rg (wY (ya z) z (nl (th (rt ?_)))))))
    obtain rfl := some1 h
    have aJ : Stp [] (Lg.O0 A) w aX aI := (tr_ (su_ e z) (tr_ (su_ c z) (su_ V z)))
    exact At.res (.inl z) z (.tmp z .nil) ⟨z, (se_ aJ z z)⟩
end Go.Lg
