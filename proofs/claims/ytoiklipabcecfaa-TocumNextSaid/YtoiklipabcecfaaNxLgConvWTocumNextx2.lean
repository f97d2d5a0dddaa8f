/- The walks of TocumNext and of what it calls, printed by gen.py. -/
import Derived.Test.YtoiklipabcecfaaNxLgConvWTocumNextx1
set_option linter.unusedVariables false
namespace Go.Lg
open Go Go.Proofs
set_option maxRecDepth 100000
set_option maxHeartbeats 4000000
theorem c_law16_awake {w : World} {r0 : Bool} (h : law16_awake = some r0) : Rets Try.prog 16 [] w (fun v w' => v = vB r0 ∧ Ext w w') := by
 unfold law16_awake at h
 refine Rets.enter Try.func16 z z ?_
 refine (show WC _ _ _ _ [] _ from ?_)
 refine sq (rg (wY (ya z) z (nl (th (sq (rg (wY (yb (vals := [(0, vs [120]), (2, vi 1), (3, vi 2), (6, vi 10), (7, vi 5)]) (cells := [vs [120], Value.slice none 0 0, vi 1, vi 2, vB false, vi 0, vi 10, vi 5, vu 0, vu 0, vi 0, vu 0, vi 0, Value.slice none 0 0, vi 0, Value.slice none 0 0, vi 0]) (fe_ z) (by kernel_rfl)) z (WL.alloc (O := (Lg.O0 (fun _ => False))) 11 [vs [], Value.slice none 0 0, vi 0, vi 0, vB false, vi 0, vi 0, vi 0, vu 0, vu 0, vi 0, vu 0, vi 0, Value.slice none 0 0, vi 0, Value.slice none 0 0, vi 0] ty37 z z ?_))))))))
 intro fV fg fK bm ef
 refine WL.store (v := Value.agg (List.toArray [vs [120], Value.slice none 0 0, vi 1, vi 2, vB false, vi 0, vi 10, vi 5, vu 0, vu 0, vi 0, vu 0, vi 0, Value.slice none 0 0, vi 0, Value.slice none 0 0, vi 0])) (cells' := [vs [120], Value.slice none 0 0, vi 1, vi 2, vB false, vi 0, vi 10, vi 5, vu 0, vu 0, vi 0, vu 0, vi 0, Value.slice none 0 0, vi 0, Value.slice none 0 0, vi 0]) ty37 z z ef z (le_ z) z z ?_
 intro fL bn aR
 refine nl (th (sq (rg (wY (yb (vals := []) (cells := [vB false, vi 0, vi 0, vi 0, vu 0, vu 0, vi 0, vu 0, vi 0, Value.slice none 0 0, vi 0, Value.slice none 0 0]) (fe_ z) (by kernel_rfl)) z (wY (yL ty37 z z (aR.cells 0 [vs [120], Value.slice none 0 0, vi 1, vi 2, vB false, vi 0, vi 10, vi 5, vu 0, vu 0, vi 0, vu 0, vi 0, Value.slice none 0 0, vi 0, Value.slice none 0 0, vi 0] z) z) z ?_)))))
 obtain ⟨⟨o, c, n⟩, eg, h⟩ := bnd h
 refine WL.call (vals := [ag [vB false, vi 0, vi 0, vi 0, vu 0, vu 0, vi 0, vu 0, vi 0, Value.slice none 0 0, vi 0, Value.slice none 0 0], Value.agg (List.toArray [vs [120], Value.slice none 0 0, vi 1, vi 2, vB false, vi 0, vi 10, vi 5, vu 0, vu 0, vi 0, vu 0, vi 0, Value.slice none 0 0, vi 0, Value.slice none 0 0, vi 0]), vi 10]) kok20 z z (c_tocum_Next (A := fun _ => True) (a0 := (api_State.mk false 0 0 0 0 0 (api_Hist.mk 0 0 (api_Side.mk 0 []) (api_Side.mk 0 [])))) (a1 := (api_Point.mk [120] [] 1 2 false 0 10 5 0 0 (api_Hist.mk 0 0 (api_Side.mk 0 []) (api_Side.mk 0 [])) 0)) (Or.inl ⟨z, z⟩) (Or.inl ⟨z, z⟩) (Or.inl ⟨z, z⟩) (Or.inl ⟨z, z⟩) (Or.inl ⟨z, z⟩) eg) ?_
 rintro fN ah ⟨fh, fi, fj, fk, fl, rfl, eh, fm, fn, fo, fp, fq⟩
 obtain ⟨ai, fr, Z, aG⟩ := adoptE fg (fun k => 1) eh
 have ei : Sl Rep.u ah (frs ai) fh o.Hist.Pos.Counts := Sl.adoptF fm (fun k hk => ⟨hk, z⟩) Z
 have ej : Sl Rep.u ah (frs ai) fi o.Hist.Neg.Counts := Sl.adoptF fn (fun k hk => ⟨hk, z⟩) Z
 have ek : Sl rep_api_Pair ah (frs ai) fj c.Attrs := Sl.adoptF fo (fun k hk => ⟨hk, z⟩) Z
 have em : Sl Rep.u ah (frs ai) fk c.Hist.Pos.Counts := Sl.adoptF fp (fun k hk => ⟨hk, z⟩) Z
 have en : Sl Rep.u ah (frs ai) fl c.Hist.Neg.Counts := Sl.adoptF fq (fun k hk => ⟨hk, z⟩) Z
 refine wY (ym z) z (wY (yx z z) z (wY (yx z z) z (wY (yx z z) z (WL.alloc (O := ai) 12 [vB false, vi 0, vi 0, vi 0, vu 0, vu 0, vi 0, vu 0, vi 0, Value.slice none 0 0, vi 0, Value.slice none 0 0] ty32 z z ?_))))
 intro fY fs fO X eo
 refine WL.alloc (O := fs) 13 [vs [], Value.slice none 0 0, vi 0, vi 0, vB false, vi 0, vi 0, vi 0, vu 0, vu 0, vi 0, vu 0, vi 0, Value.slice none 0 0, vi 0, Value.slice none 0 0, vi 0] ty37 z z ?_
 intro af ft fP S ep
 have er := ei.f X z
 have aS := er.f S z
 have es := h
 obtain ⟨aH, aI, aJ, rfl⟩ := aS.shape
 have h := es
 have et := ej.f X z
 have aT := et.f S z
 have eu := h
 obtain ⟨aK, aL, aM, rfl⟩ := aT.shape
 have h := eu
 have ew := eo.st S z
 refine WL.store (v := ag [vB o.Some, vi o.Start, vi o.Time, vi o.Int_, vu o.Re, vu o.Im, vi o.Hist.Scale, vu o.Hist.Zero, vi o.Hist.Pos.Offset, (Value.slice aH aI aJ), vi o.Hist.Neg.Offset, (Value.slice aK aL aM)]) (cells' := [vB o.Some, vi o.Start, vi o.Time, vi o.Int_, vu o.Re, vu o.Im, vi o.Hist.Scale, vu o.Hist.Zero, vi o.Hist.Pos.Offset, (Value.slice aH aI aJ), vi o.Hist.Neg.Offset, (Value.slice aK aL aM)]) ty32 z z ew z (le_ z) z z ?_
 intro fQ T ex
 have ey := ek.f X z
 have ez := ey.f S z
 have eA := ez.f T z
 have eB := h
 obtain ⟨d6, d7, d8, rfl⟩ := eA.shape
 have h := eB
 have eC := em.f X z
 have eD := eC.f S z
 have eE := eD.f T z
 have eF := h
 obtain ⟨d9, ea, eb, rfl⟩ := eE.shape
 have h := eF
 have eG := en.f X z
 have eH := eG.f S z
 have eI := eH.f T z
 have eJ := h
 obtain ⟨ec, ed, ee, rfl⟩ := eI.shape
 have h := eJ
 have eK := ep.st T z
 refine WL.store (v := ag [vs c.Name, (Value.slice d6 d7 d8), vi c.Kind, vi c.Temp, vB c.Mono, vi c.Start, vi c.Time, vi c.Int_, vu c.Re, vu c.Im, vi c.Hist.Scale, vu c.Hist.Zero, vi c.Hist.Pos.Offset, (Value.slice d9 ea eb), vi c.Hist.Neg.Offset, (Value.slice ec ed ee), vi c.Flags]) (cells' := [vs c.Name, (Value.slice d6 d7 d8), vi c.Kind, vi c.Temp, vB c.Mono, vi c.Start, vi c.Time, vi c.Int_, vu c.Re, vu c.Im, vi c.Hist.Scale, vu c.Hist.Zero, vi c.Hist.Pos.Offset, (Value.slice d9 ea eb), vi c.Hist.Neg.Offset, (Value.slice ec ed ee), vi c.Flags]) ty37 z z eK z (le_ z) z z ?_
 intro fR aa aF
 refine wY (ya z) z (nl (th (sq (rg (wY (yf fo37_5 z) z ?_)))))
 have eL := aR.st aG z
 have eM := eL.st X z
 have eN := eM.st S z
 have eO := eN.st T z
 have bo := eO.st aa z
 refine WL.store (v := vi 10) (cells' := [vs [120], Value.slice none 0 0, vi 1, vi 2, vB false, vi 10, vi 10, vi 5, vu 0, vu 0, vi 0, vu 0, vi 0, Value.slice none 0 0, vi 0, Value.slice none 0 0, vi 0]) ty3 z z bo z (le_ z) z z ?_
 intro fu L bp
 refine nl (th (sq (rg (wY (yf fo37_6 z) z (WL.store (v := vi 20) (cells' := [vs [120], Value.slice none 0 0, vi 1, vi 2, vB false, vi 10, vi 20, vi 5, vu 0, vu 0, vi 0, vu 0, vi 0, Value.slice none 0 0, vi 0, Value.slice none 0 0, vi 0]) ty3 z z bp z (le_ z) z z ?_)))))
 intro fv M bq
 refine nl (th (sq (rg (wY (yf fo37_7 z) z (WL.store (v := vi 3) (cells' := [vs [120], Value.slice none 0 0, vi 1, vi 2, vB false, vi 10, vi 20, vi 3, vu 0, vu 0, vi 0, vu 0, vi 0, Value.slice none 0 0, vi 0, Value.slice none 0 0, vi 0]) ty3 z z bq z (le_ z) z z ?_)))))
 intro fw P aN
 refine nl (th (sq (rg ?_)))
 have br := ex.st aa z
 have bs := br.st L z
 have bt := bs.st M z
 have aO := bt.st P z
 refine wY (yL ty32 z z (aO.cells 0 [vB o.Some, vi o.Start, vi o.Time, vi o.Int_, vu o.Re, vu o.Im, vi o.Hist.Scale, vu o.Hist.Zero, vi o.Hist.Pos.Offset, (Value.slice aH aI aJ), vi o.Hist.Neg.Offset, (Value.slice aK aL aM)] z) z) z (wY (yL ty37 z z (aN.cells 0 [vs [120], Value.slice none 0 0, vi 1, vi 2, vB false, vi 10, vi 20, vi 3, vu 0, vu 0, vi 0, vu 0, vi 0, Value.slice none 0 0, vi 0, Value.slice none 0 0, vi 0] z) z) z ?_)
 have bu := aS.f T z
 have bw := bu.f aa z
 have bx := bw.f L z
 have bz := bx.f M z
 have bA := bz.f P z
 have bB := aT.f T z
 have bC := bB.f aa z
 have bD := bC.f L z
 have bE := bD.f M z
 have bF := bE.f P z
 obtain ⟨⟨l, d, j⟩, bG, h⟩ := bnd h
 refine WL.call (vals := [ag [vB o.Some, vi o.Start, vi o.Time, vi o.Int_, vu o.Re, vu o.Im, vi o.Hist.Scale, vu o.Hist.Zero, vi o.Hist.Pos.Offset, (Value.slice aH aI aJ), vi o.Hist.Neg.Offset, (Value.slice aK aL aM)], Value.agg (List.toArray [vs [120], Value.slice none 0 0, vi 1, vi 2, vB false, vi 10, vi 20, vi 3, vu 0, vu 0, vi 0, vu 0, vi 0, Value.slice none 0 0, vi 0, Value.slice none 0 0, vi 0]), vi 10]) kok20 z z (c_tocum_Next (A := fun _ => True) (a0 := o) (a1 := (api_Point.mk [120] [] 1 2 false 10 20 3 0 0 (api_Hist.mk 0 0 (api_Side.mk 0 []) (api_Side.mk 0 [])) 0)) (Sl.all bA) (Sl.all bF) (Or.inl ⟨z, z⟩) (Or.inl ⟨z, z⟩) (Or.inl ⟨z, z⟩) bG) ?_
 rintro fx ab ⟨eP, eQ, eR, eS, eT, rfl, bH, eU, eV, eW, eX, eY⟩
 obtain ⟨ad, fe, U, V⟩ := adoptE ft (fun k => 1) bH
 have bI : Sl Rep.u ab (frs ad) eP l.Hist.Pos.Counts := Sl.adoptF eU (fun k hk => ⟨hk, z⟩) U
 have bJ : Sl Rep.u ab (frs ad) eQ l.Hist.Neg.Counts := Sl.adoptF eV (fun k hk => ⟨hk, z⟩) U
 have bK : Sl rep_api_Pair ab (frs ad) eR d.Attrs := Sl.adoptF eW (fun k hk => ⟨hk, z⟩) U
 have bL : Sl Rep.u ab (frs ad) eS d.Hist.Pos.Counts := Sl.adoptF eX (fun k hk => ⟨hk, z⟩) U
 have bM : Sl Rep.u ab (frs ad) eT d.Hist.Neg.Counts := Sl.adoptF eY (fun k hk => ⟨hk, z⟩) U
 refine wY (ym z) z (wY (yx z z) z (wY (yx z z) z (wY (yx z z) z (WL.alloc (O := ad) 14 [vs [], Value.slice none 0 0, vi 0, vi 0, vB false, vi 0, vi 0, vi 0, vu 0, vu 0, vi 0, vu 0, vi 0, Value.slice none 0 0, vi 0, Value.slice none 0 0, vi 0] ty37 z z ?_))))
 intro J eZ fy C bO
 have aP := bI.f C z
 have bP := h
 obtain ⟨aj, ak, al, rfl⟩ := aP.shape
 have h := bP
 have aQ := bJ.f C z
 have bQ := h
 obtain ⟨am, an, ao, rfl⟩ := aQ.shape
 have h := bQ
 have bR := aO.st V z
 have bS := bR.st C z
 refine WL.store (v := ag [vB l.Some, vi l.Start, vi l.Time, vi l.Int_, vu l.Re, vu l.Im, vi l.Hist.Scale, vu l.Hist.Zero, vi l.Hist.Pos.Offset, (Value.slice aj ak al), vi l.Hist.Neg.Offset, (Value.slice am an ao)]) (cells' := [vB l.Some, vi l.Start, vi l.Time, vi l.Int_, vu l.Re, vu l.Im, vi l.Hist.Scale, vu l.Hist.Zero, vi l.Hist.Pos.Offset, (Value.slice aj ak al), vi l.Hist.Neg.Offset, (Value.slice am an ao)]) ty32 z z bS z (le_ z) z z ?_
 intro fz D bT
 have bU := bK.f C z
 have bW := bU.f D z
 have bX := h
 obtain ⟨aU, aW, aX, rfl⟩ := bW.shape
 have h := bX
 have bY := bL.f C z
 have bZ := bY.f D z
 have b0 := h
 obtain ⟨aY, aZ, a2, rfl⟩ := bZ.shape
 have h := b0
 have b1 := bM.f C z
 have b2 := b1.f D z
 have b3 := h
 obtain ⟨a3, a4, a5, rfl⟩ := b2.shape
 have h := b3
 have b4 := bO.st D z
 refine WL.store (v := ag [vs d.Name, (Value.slice aU aW aX), vi d.Kind, vi d.Temp, vB d.Mono, vi d.Start, vi d.Time, vi d.Int_, vu d.Re, vu d.Im, vi d.Hist.Scale, vu d.Hist.Zero, vi d.Hist.Pos.Offset, (Value.slice aY aZ a2), vi d.Hist.Neg.Offset, (Value.slice a3 a4 a5), vi d.Flags]) (cells' := [vs d.Name, (Value.slice aU aW aX), vi d.Kind, vi d.Temp, vB d.Mono, vi d.Start, vi d.Time, vi d.Int_, vu d.Re, vu d.Im, vi d.Hist.Scale, vu d.Hist.Zero, vi d.Hist.Pos.Offset, (Value.slice aY aZ a2), vi d.Hist.Neg.Offset, (Value.slice a3 a4 a5), vi d.Flags]) ty37 z z b4 z (le_ z) z z ?_
 intro fA K ap
 refine wY (ya z) z (nl (th (sq (rg (wY (yf fo37_5 z) z ?_)))))
 have b5 := aN.st V z
 have b6 := b5.st C z
 have b7 := b6.st D z
 have b8 := b7.st K z
 refine WL.store (v := vi 25) (cells' := [vs [120], Value.slice none 0 0, vi 1, vi 2, vB false, vi 25, vi 20, vi 3, vu 0, vu 0, vi 0, vu 0, vi 0, Value.slice none 0 0, vi 0, Value.slice none 0 0, vi 0]) ty3 z z b8 z (le_ z) z z ?_
 intro fB F b9
 refine nl (th (sq (rg (wY (yf fo37_6 z) z (WL.store (v := vi 30) (cells' := [vs [120], Value.slice none 0 0, vi 1, vi 2, vB false, vi 25, vi 30, vi 3, vu 0, vu 0, vi 0, vu 0, vi 0, Value.slice none 0 0, vi 0, Value.slice none 0 0, vi 0]) ty3 z z b9 z (le_ z) z z ?_)))))
 intro fC G ca
 refine nl (th (sq (rg (wY (yf fo37_7 z) z (WL.store (v := vi 2) (cells' := [vs [120], Value.slice none 0 0, vi 1, vi 2, vB false, vi 25, vi 30, vi 2, vu 0, vu 0, vi 0, vu 0, vi 0, Value.slice none 0 0, vi 0, Value.slice none 0 0, vi 0]) ty3 z z ca z (le_ z) z z ?_)))))
 intro fD H cb
 refine nl (th (sq (rg ?_)))
 have cc := bT.st K z
 have cd := cc.st F z
 have ce := cd.st G z
 have cf := ce.st H z
 refine wY (yL ty32 z z (cf.cells 0 [vB l.Some, vi l.Start, vi l.Time, vi l.Int_, vu l.Re, vu l.Im, vi l.Hist.Scale, vu l.Hist.Zero, vi l.Hist.Pos.Offset, (Value.slice aj ak al), vi l.Hist.Neg.Offset, (Value.slice am an ao)] z) z) z (wY (yL ty37 z z (cb.cells 0 [vs [120], Value.slice none 0 0, vi 1, vi 2, vB false, vi 25, vi 30, vi 2, vu 0, vu 0, vi 0, vu 0, vi 0, Value.slice none 0 0, vi 0, Value.slice none 0 0, vi 0] z) z) z ?_)
 have cg := aP.f D z
 have ch := cg.f K z
 have ci := ch.f F z
 have cj := ci.f G z
 have ck := cj.f H z
 have cl := aQ.f D z
 have cm := cl.f K z
 have cn := cm.f F z
 have co := cn.f G z
 have cp := co.f H z
 obtain ⟨⟨p, e, m⟩, cq, h⟩ := bnd h
 refine WL.call (vals := [ag [vB l.Some, vi l.Start, vi l.Time, vi l.Int_, vu l.Re, vu l.Im, vi l.Hist.Scale, vu l.Hist.Zero, vi l.Hist.Pos.Offset, (Value.slice aj ak al), vi l.Hist.Neg.Offset, (Value.slice am an ao)], Value.agg (List.toArray [vs [120], Value.slice none 0 0, vi 1, vi 2, vB false, vi 25, vi 30, vi 2, vu 0, vu 0, vi 0, vu 0, vi 0, Value.slice none 0 0, vi 0, Value.slice none 0 0, vi 0]), vi 10]) kok20 z z (c_tocum_Next (A := fun _ => True) (a0 := l) (a1 := (api_Point.mk [120] [] 1 2 false 25 30 2 0 0 (api_Hist.mk 0 0 (api_Side.mk 0 []) (api_Side.mk 0 [])) 0)) (Sl.all ck) (Sl.all cp) (Or.inl ⟨z, z⟩) (Or.inl ⟨z, z⟩) (Or.inl ⟨z, z⟩) cq) ?_
 rintro fF ac ⟨e0, e1, e2, e5, e6, rfl, cr, e7, e8, e9, fa, fb⟩
 obtain ⟨ae, ff, W, Q⟩ := adoptE eZ (fun k => 1) cr
 have cs : Sl Rep.u ac (frs ae) e0 p.Hist.Pos.Counts := Sl.adoptF e7 (fun k hk => ⟨hk, z⟩) W
 have ct : Sl Rep.u ac (frs ae) e1 p.Hist.Neg.Counts := Sl.adoptF e8 (fun k hk => ⟨hk, z⟩) W
 have cu : Sl rep_api_Pair ac (frs ae) e2 e.Attrs := Sl.adoptF e9 (fun k hk => ⟨hk, z⟩) W
 have cv : Sl Rep.u ac (frs ae) e5 e.Hist.Pos.Counts := Sl.adoptF fa (fun k hk => ⟨hk, z⟩) W
 have cw : Sl Rep.u ac (frs ae) e6 e.Hist.Neg.Counts := Sl.adoptF fb (fun k hk => ⟨hk, z⟩) W
 refine wY (ym z) z (wY (yx z z) z (wY (yx z z) z (wY (yx z z) z (WL.alloc (O := ae) 15 [vB false, vi 0, vi 0, vi 0, vu 0, vu 0, vi 0, vu 0, vi 0, Value.slice none 0 0, vi 0, Value.slice none 0 0] ty32 z z ?_))))
 intro fT fc fG t cx
 refine WL.alloc (O := fc) 16 [vs [], Value.slice none 0 0, vi 0, vi 0, vB false, vi 0, vi 0, vi 0, vu 0, vu 0, vi 0, vu 0, vi 0, Value.slice none 0 0, vi 0, Value.slice none 0 0, vi 0] ty37 z z ?_
 intro q fd fH r cy
 have cz := cs.f t z
 have cA := cz.f r z
 have cC := h
 obtain ⟨a6, a7, a8, rfl⟩ := cA.shape
 have h := cC
 have cD := ct.f t z
 have cE := cD.f r z
 have cF := h
 obtain ⟨a9, ba, bb, rfl⟩ := cE.shape
 have h := cF
 have cG := cx.st r z
 refine WL.store (v := ag [vB p.Some, vi p.Start, vi p.Time, vi p.Int_, vu p.Re, vu p.Im, vi p.Hist.Scale, vu p.Hist.Zero, vi p.Hist.Pos.Offset, (Value.slice a6 a7 a8), vi p.Hist.Neg.Offset, (Value.slice a9 ba bb)]) (cells' := [vB p.Some, vi p.Start, vi p.Time, vi p.Int_, vu p.Re, vu p.Im, vi p.Hist.Scale, vu p.Hist.Zero, vi p.Hist.Pos.Offset, (Value.slice a6 a7 a8), vi p.Hist.Neg.Offset, (Value.slice a9 ba bb)]) ty32 z z cG z (le_ z) z z ?_
 intro fI E fJ
 have cH := cu.f t z
 have cI := cH.f r z
 have cJ := cI.f E z
 have cK := h
 obtain ⟨bc, bd, bf, rfl⟩ := cJ.shape
 have h := cK
 have cL := cv.f t z
 have cM := cL.f r z
 have cN := cM.f E z
 have cO := h
 obtain ⟨bg, bh, bi, rfl⟩ := cN.shape
 have h := cO
 have cP := cw.f t z
 have cQ := cP.f r z
 have cR := cQ.f E z
 have cS := h
 obtain ⟨bj, bk, bl, rfl⟩ := cR.shape
 have h := cS
 have cT := cy.st E z
 refine WL.store (v := ag [vs e.Name, (Value.slice bc bd bf), vi e.Kind, vi e.Temp, vB e.Mono, vi e.Start, vi e.Time, vi e.Int_, vu e.Re, vu e.Im, vi e.Hist.Scale, vu e.Hist.Zero, vi e.Hist.Pos.Offset, (Value.slice bg bh bi), vi e.Hist.Neg.Offset, (Value.slice bj bk bl), vi e.Flags]) (cells' := [vs e.Name, (Value.slice bc bd bf), vi e.Kind, vi e.Temp, vB e.Mono, vi e.Start, vi e.Time, vi e.Int_, vu e.Re, vu e.Im, vi e.Hist.Scale, vu e.Hist.Zero, vi e.Hist.Pos.Offset, (Value.slice bg bh bi), vi e.Hist.Neg.Offset, (Value.slice bj bk bl), vi e.Flags]) ty37 z z cT z (le_ z) z z ?_
 intro I R aq
 refine wY (ya z) z (nl (th (sq (rg (wY (ym z) z (wY (Y.eql_i z z) z (wY (ym z) z ?_)))))))
 refine WL.cut 3 (σ := Unit) (fun _ w' => I = w') (fun _ => [(3, pt af 0), (5, pt J 0), (8, pt q 0), (9, vi m), (43, vB ((decide (n = 0)) && (decide (j = 0))))]) ?_ ?_
 ·refine WL.part 40 z (fun ar => ?_) (fun ar => ?_)
  ·refine ug z z (wY (ym z) z (ug z z (wY (Y.eql_i z z) z (wY (Y.pick (b := true) z z) z (WL.ren (v' := vB ((decide (n = 0)) && (decide (j = 0)))) 43 z (congrArg vB (andT ar)) ?_)))))
   exact nl (At.join () z (.cons z (.cons z (.cons z (.cons z (.cons z .nil))))))
  ·refine WL.gS z z z z (WL.gS z z z z (wY (Y.pick (b := false) z z) z (WL.ren (v' := vB ((decide (n = 0)) && (decide (j = 0)))) 43 z (congrArg vB (andF ar)) ?_)))
   exact nl (At.join () z (.cons z (.cons z (.cons z (.cons z (.cons z .nil))))))
 ·rintro _ _ rfl
  refine (show WL _ _ _ _ _ [(3, pt af 0), (5, pt J 0), (8, pt q 0), (9, vi m), (43, vB ((decide (n = 0)) && (decide (j = 0))))] _ from ?_)
  refine wY (ym z) z ?_
  refine WL.cut 3 (σ := Unit) (fun _ w' => I = w') (fun _ => [(3, pt af 0), (5, pt J 0), (8, pt q 0), (47, vB (((decide (n = 0)) && (decide (j = 0))) && (decide (m = 0))))]) ?_ ?_
  ·refine WL.part 44 z (fun au => ?_) (fun au => ?_)
   ·refine ug z z (wY (ym z) z (ug z z (wY (Y.eql_i z z) z (wY (Y.pick (b := true) z z) z (WL.ren (v' := vB (((decide (n = 0)) && (decide (j = 0))) && (decide (m = 0)))) 47 z (congrArg vB (andT au)) ?_)))))
    exact nl (At.join () z (.cons z (.cons z (.cons z (.cons z .nil)))))
   ·refine WL.gS z z z z (WL.gS z z z z (wY (Y.pick (b := false) z z) z (WL.ren (v' := vB (((decide (n = 0)) && (decide (j = 0))) && (decide (m = 0)))) 47 z (congrArg vB (andF au)) ?_)))
    exact nl (At.join () z (.cons z (.cons z (.cons z (.cons z .nil)))))
  ·rintro _ _ rfl
   refine (show WL _ _ _ _ _ [(3, pt af 0), (5, pt J 0), (8, pt q 0), (47, vB (((decide (n = 0)) && (decide (j = 0))) && (decide (m = 0))))] _ from ?_)
   refine wY (ym z) z ?_
   refine WL.cut 4 (σ := Unit) (fun _ w' => I = w') (fun _ => [(3, pt af 0), (5, pt J 0), (8, pt q 0), (52, vB ((((decide (n = 0)) && (decide (j = 0))) && (decide (m = 0))) && (decide (c.Flags = 1))))]) ?_ ?_
   ·refine WL.part 48 z (fun av => ?_) (fun av => ?_)
    ·refine ug z z (wY (yf fo37_11 z) z (ug z z ?_))
     have cU := aF.st L z
     have cV := cU.st M z
     have cW := cV.st P z
     have cX := cW.st V z
     have cY := cX.st C z
     have cZ := cY.st D z
     have c0 := cZ.st K z
     have c1 := c0.st F z
     have c2 := c1.st G z
     have c3 := c2.st H z
     have c4 := c3.st Q z
     have c5 := c4.st t z
     have c6 := c5.st r z
     have c7 := c6.st E z
     have c8 := c7.st R z
     refine wY (yl ty3 z z (c8.cell 16 _ z)) z (ug z z (wY (Y.eql_i z z) z (wY (Y.pick (b := true) z z) z (WL.ren (v' := vB ((((decide (n = 0)) && (decide (j = 0))) && (decide (m = 0))) && (decide (c.Flags = 1)))) 52 z (congrArg vB (andT av)) ?_))))
     exact nl (At.join () z (.cons z (.cons z (.cons z (.cons z .nil)))))
    ·refine WL.gS z z z z (WL.gS z z z z (WL.gS z z z z (wY (Y.pick (b := false) z z) z (WL.ren (v' := vB ((((decide (n = 0)) && (decide (j = 0))) && (decide (m = 0))) && (decide (c.Flags = 1)))) 52 z (congrArg vB (andF av)) ?_))))
     exact nl (At.join () z (.cons z (.cons z (.cons z (.cons z .nil)))))
   ·rintro _ _ rfl
    refine (show WL _ _ _ _ _ [(3, pt af 0), (5, pt J 0), (8, pt q 0), (52, vB ((((decide (n = 0)) && (decide (j = 0))) && (decide (m = 0))) && (decide (c.Flags = 1))))] _ from ?_)
    refine wY (ym z) z ?_
    refine WL.cut 4 (σ := Unit) (fun _ w' => I = w') (fun _ => [(3, pt af 0), (5, pt J 0), (8, pt q 0), (57, vB (((((decide (n = 0)) && (decide (j = 0))) && (decide (m = 0))) && (decide (c.Flags = 1))) && (decide (c.Int_ = 5))))]) ?_ ?_
    ·refine WL.part 53 z (fun aw => ?_) (fun aw => ?_)
     ·refine ug z z (wY (yf fo37_7 z) z (ug z z ?_))
      have c9 := aF.st L z
      have da := c9.st M z
      have db := da.st P z
      have dc := db.st V z
      have dd := dc.st C z
      have de := dd.st D z
      have df := de.st K z
      have dg := df.st F z
      have dh := dg.st G z
      have di := dh.st H z
      have dj := di.st Q z
      have dk := dj.st t z
      have dl := dk.st r z
      have dm := dl.st E z
      have dn := dm.st R z
      refine wY (yl ty3 z z (dn.cell 7 _ z)) z (ug z z (wY (Y.eql_i z z) z (wY (Y.pick (b := true) z z) z (WL.ren (v' := vB (((((decide (n = 0)) && (decide (j = 0))) && (decide (m = 0))) && (decide (c.Flags = 1))) && (decide (c.Int_ = 5)))) 57 z (congrArg vB (andT aw)) ?_))))
      exact nl (At.join () z (.cons z (.cons z (.cons z (.cons z .nil)))))
     ·refine WL.gS z z z z (WL.gS z z z z (WL.gS z z z z (wY (Y.pick (b := false) z z) z (WL.ren (v' := vB (((((decide (n = 0)) && (decide (j = 0))) && (decide (m = 0))) && (decide (c.Flags = 1))) && (decide (c.Int_ = 5)))) 57 z (congrArg vB (andF aw)) ?_))))
      exact nl (At.join () z (.cons z (.cons z (.cons z (.cons z .nil)))))
    ·rintro _ _ rfl
     refine (show WL _ _ _ _ _ [(3, pt af 0), (5, pt J 0), (8, pt q 0), (57, vB (((((decide (n = 0)) && (decide (j = 0))) && (decide (m = 0))) && (decide (c.Flags = 1))) && (decide (c.Int_ = 5))))] _ from ?_)
     refine wY (ym z) z ?_
     refine WL.cut 4 (σ := Unit) (fun _ w' => I = w') (fun _ => [(5, pt J 0), (8, pt q 0), (62, vB ((((((decide (n = 0)) && (decide (j = 0))) && (decide (m = 0))) && (decide (c.Flags = 1))) && (decide (c.Int_ = 5))) && (decide (c.Temp = 1))))]) ?_ ?_
     ·refine WL.part 58 z (fun ax => ?_) (fun ax => ?_)
      ·refine ug z z (wY (yf fo37_3 z) z (ug z z ?_))
       have dp := aF.st L z
       have dr := dp.st M z
       have ds := dr.st P z
       have dt := ds.st V z
       have du := dt.st C z
       have dw := du.st D z
       have dx := dw.st K z
       have dy := dx.st F z
       have dz := dy.st G z
       have dA := dz.st H z
       have dB := dA.st Q z
       have dC := dB.st t z
       have dD := dC.st r z
       have dE := dD.st E z
       have dF := dE.st R z
       refine wY (yl ty3 z z (dF.cell 3 _ z)) z (ug z z (wY (Y.eql_i z z) z (wY (Y.pick (b := true) z z) z (WL.ren (v' := vB ((((((decide (n = 0)) && (decide (j = 0))) && (decide (m = 0))) && (decide (c.Flags = 1))) && (decide (c.Int_ = 5))) && (decide (c.Temp = 1)))) 62 z (congrArg vB (andT ax)) ?_))))
       exact nl (At.join () z (.cons z (.cons z (.cons z .nil))))
      ·refine WL.gS z z z z (WL.gS z z z z (WL.gS z z z z (wY (Y.pick (b := false) z z) z (WL.ren (v' := vB ((((((decide (n = 0)) && (decide (j = 0))) && (decide (m = 0))) && (decide (c.Flags = 1))) && (decide (c.Int_ = 5))) && (decide (c.Temp = 1)))) 62 z (congrArg vB (andF ax)) ?_))))
       exact nl (At.join () z (.cons z (.cons z (.cons z .nil))))
     ·rintro _ _ rfl
      refine (show WL _ _ _ _ _ [(5, pt J 0), (8, pt q 0), (62, vB ((((((decide (n = 0)) && (decide (j = 0))) && (decide (m = 0))) && (decide (c.Flags = 1))) && (decide (c.Int_ = 5))) && (decide (c.Temp = 1))))] _ from ?_)
      refine wY (ym z) z ?_
      refine WL.cut 4 (σ := Unit) (fun _ w' => I = w') (fun _ => [(5, pt J 0), (8, pt q 0), (67, vB (((((((decide (n = 0)) && (decide (j = 0))) && (decide (m = 0))) && (decide (c.Flags = 1))) && (decide (c.Int_ = 5))) && (decide (c.Temp = 1))) && (decide (d.Flags = 0))))]) ?_ ?_
      ·refine WL.part 63 z (fun ay => ?_) (fun ay => ?_)
       ·refine ug z z (wY (yf fo37_11 z) z (ug z z ?_))
        have dG := ap.st F z
        have dH := dG.st G z
        have dI := dH.st H z
        have dJ := dI.st Q z
        have dK := dJ.st t z
        have dL := dK.st r z
        have dM := dL.st E z
        have dN := dM.st R z
        refine wY (yl ty3 z z (dN.cell 16 _ z)) z (ug z z (wY (Y.eql_i z z) z (wY (Y.pick (b := true) z z) z (WL.ren (v' := vB (((((((decide (n = 0)) && (decide (j = 0))) && (decide (m = 0))) && (decide (c.Flags = 1))) && (decide (c.Int_ = 5))) && (decide (c.Temp = 1))) && (decide (d.Flags = 0)))) 67 z (congrArg vB (andT ay)) ?_))))
        exact nl (At.join () z (.cons z (.cons z (.cons z .nil))))
       ·refine WL.gS z z z z (WL.gS z z z z (WL.gS z z z z (wY (Y.pick (b := false) z z) z (WL.ren (v' := vB (((((((decide (n = 0)) && (decide (j = 0))) && (decide (m = 0))) && (decide (c.Flags = 1))) && (decide (c.Int_ = 5))) && (decide (c.Temp = 1))) && (decide (d.Flags = 0)))) 67 z (congrArg vB (andF ay)) ?_))))
        exact nl (At.join () z (.cons z (.cons z (.cons z .nil))))
      ·rintro _ _ rfl
       refine (show WL _ _ _ _ _ [(5, pt J 0), (8, pt q 0), (67, vB (((((((decide (n = 0)) && (decide (j = 0))) && (decide (m = 0))) && (decide (c.Flags = 1))) && (decide (c.Int_ = 5))) && (decide (c.Temp = 1))) && (decide (d.Flags = 0))))] _ from ?_)
       refine wY (ym z) z ?_
       refine WL.cut 4 (σ := Unit) (fun _ w' => I = w') (fun _ => [(5, pt J 0), (8, pt q 0), (72, vB ((((((((decide (n = 0)) && (decide (j = 0))) && (decide (m = 0))) && (decide (c.Flags = 1))) && (decide (c.Int_ = 5))) && (decide (c.Temp = 1))) && (decide (d.Flags = 0))) && (decide (d.Int_ = 8))))]) ?_ ?_
       ·refine WL.part 68 z (fun az => ?_) (fun az => ?_)
        ·refine ug z z (wY (yf fo37_7 z) z (ug z z ?_))
         have dO := ap.st F z
         have dP := dO.st G z
         have dQ := dP.st H z
         have dR := dQ.st Q z
         have dS := dR.st t z
         have dT := dS.st r z
         have dU := dT.st E z
         have dV := dU.st R z
         refine wY (yl ty3 z z (dV.cell 7 _ z)) z (ug z z (wY (Y.eql_i z z) z (wY (Y.pick (b := true) z z) z (WL.ren (v' := vB ((((((((decide (n = 0)) && (decide (j = 0))) && (decide (m = 0))) && (decide (c.Flags = 1))) && (decide (c.Int_ = 5))) && (decide (c.Temp = 1))) && (decide (d.Flags = 0))) && (decide (d.Int_ = 8)))) 72 z (congrArg vB (andT az)) ?_))))
         exact nl (At.join () z (.cons z (.cons z (.cons z .nil))))
        ·refine WL.gS z z z z (WL.gS z z z z (WL.gS z z z z (wY (Y.pick (b := false) z z) z (WL.ren (v' := vB ((((((((decide (n = 0)) && (decide (j = 0))) && (decide (m = 0))) && (decide (c.Flags = 1))) && (decide (c.Int_ = 5))) && (decide (c.Temp = 1))) && (decide (d.Flags = 0))) && (decide (d.Int_ = 8)))) 72 z (congrArg vB (andF az)) ?_))))
         exact nl (At.join () z (.cons z (.cons z (.cons z .nil))))
       ·rintro _ _ rfl
        refine (show WL _ _ _ _ _ [(5, pt J 0), (8, pt q 0), (72, vB ((((((((decide (n = 0)) && (decide (j = 0))) && (decide (m = 0))) && (decide (c.Flags = 1))) && (decide (c.Int_ = 5))) && (decide (c.Temp = 1))) && (decide (d.Flags = 0))) && (decide (d.Int_ = 8))))] _ from ?_)
        refine wY (ym z) z ?_
        refine WL.cut 4 (σ := Unit) (fun _ w' => I = w') (fun _ => [(8, pt q 0), (77, vB (((((((((decide (n = 0)) && (decide (j = 0))) && (decide (m = 0))) && (decide (c.Flags = 1))) && (decide (c.Int_ = 5))) && (decide (c.Temp = 1))) && (decide (d.Flags = 0))) && (decide (d.Int_ = 8))) && (decide (d.Start = 0))))]) ?_ ?_
        ·refine WL.part 73 z (fun aA => ?_) (fun aA => ?_)
         ·refine ug z z (wY (yf fo37_5 z) z (ug z z ?_))
          have dW := ap.st F z
          have dX := dW.st G z
          have dY := dX.st H z
          have dZ := dY.st Q z
          have d0 := dZ.st t z
          have d1 := d0.st r z
          have d2 := d1.st E z
          have d3 := d2.st R z
          refine wY (yl ty3 z z (d3.cell 5 _ z)) z (ug z z (wY (Y.eql_i z z) z (wY (Y.pick (b := true) z z) z (WL.ren (v' := vB (((((((((decide (n = 0)) && (decide (j = 0))) && (decide (m = 0))) && (decide (c.Flags = 1))) && (decide (c.Int_ = 5))) && (decide (c.Temp = 1))) && (decide (d.Flags = 0))) && (decide (d.Int_ = 8))) && (decide (d.Start = 0)))) 77 z (congrArg vB (andT aA)) ?_))))
          exact nl (At.join () z (.cons z (.cons z .nil)))
         ·refine WL.gS z z z z (WL.gS z z z z (WL.gS z z z z (wY (Y.pick (b := false) z z) z (WL.ren (v' := vB (((((((((decide (n = 0)) && (decide (j = 0))) && (decide (m = 0))) && (decide (c.Flags = 1))) && (decide (c.Int_ = 5))) && (decide (c.Temp = 1))) && (decide (d.Flags = 0))) && (decide (d.Int_ = 8))) && (decide (d.Start = 0)))) 77 z (congrArg vB (andF aA)) ?_))))
          exact nl (At.join () z (.cons z (.cons z .nil)))
        ·rintro _ _ rfl
         refine (show WL _ _ _ _ _ [(8, pt q 0), (77, vB (((((((((decide (n = 0)) && (decide (j = 0))) && (decide (m = 0))) && (decide (c.Flags = 1))) && (decide (c.Int_ = 5))) && (decide (c.Temp = 1))) && (decide (d.Flags = 0))) && (decide (d.Int_ = 8))) && (decide (d.Start = 0))))] _ from ?_)
         refine wY (ym z) z ?_
         refine WL.cut 4 (σ := Unit) (fun _ w' => I = w') (fun _ => [(8, pt q 0), (82, vB ((((((((((decide (n = 0)) && (decide (j = 0))) && (decide (m = 0))) && (decide (c.Flags = 1))) && (decide (c.Int_ = 5))) && (decide (c.Temp = 1))) && (decide (d.Flags = 0))) && (decide (d.Int_ = 8))) && (decide (d.Start = 0))) && (decide (e.Flags = 8))))]) ?_ ?_
         ·refine WL.part 78 z (fun aC => ?_) (fun aC => ?_)
          ·refine ug z z (wY (yf fo37_11 z) z (ug z z (wY (yl ty3 z z (aq.cell 16 _ z)) z (ug z z (wY (Y.eql_i z z) z (wY (Y.pick (b := true) z z) z (WL.ren (v' := vB ((((((((((decide (n = 0)) && (decide (j = 0))) && (decide (m = 0))) && (decide (c.Flags = 1))) && (decide (c.Int_ = 5))) && (decide (c.Temp = 1))) && (decide (d.Flags = 0))) && (decide (d.Int_ = 8))) && (decide (d.Start = 0))) && (decide (e.Flags = 8)))) 82 z (congrArg vB (andT aC)) ?_)))))))
           exact nl (At.join () z (.cons z (.cons z .nil)))
          ·refine WL.gS z z z z (WL.gS z z z z (WL.gS z z z z (wY (Y.pick (b := false) z z) z (WL.ren (v' := vB ((((((((((decide (n = 0)) && (decide (j = 0))) && (decide (m = 0))) && (decide (c.Flags = 1))) && (decide (c.Int_ = 5))) && (decide (c.Temp = 1))) && (decide (d.Flags = 0))) && (decide (d.Int_ = 8))) && (decide (d.Start = 0))) && (decide (e.Flags = 8)))) 82 z (congrArg vB (andF aC)) ?_))))
           exact nl (At.join () z (.cons z (.cons z .nil)))
         ·rintro _ _ rfl
          refine (show WL _ _ _ _ _ [(8, pt q 0), (82, vB ((((((((((decide (n = 0)) && (decide (j = 0))) && (decide (m = 0))) && (decide (c.Flags = 1))) && (decide (c.Int_ = 5))) && (decide (c.Temp = 1))) && (decide (d.Flags = 0))) && (decide (d.Int_ = 8))) && (decide (d.Start = 0))) && (decide (e.Flags = 8))))] _ from ?_)
          refine wY (ym z) z ?_
          refine WL.cut 4 (σ := Unit) (fun _ w' => I = w') (fun _ => [(8, pt q 0), (87, vB (((((((((((decide (n = 0)) && (decide (j = 0))) && (decide (m = 0))) && (decide (c.Flags = 1))) && (decide (c.Int_ = 5))) && (decide (c.Temp = 1))) && (decide (d.Flags = 0))) && (decide (d.Int_ = 8))) && (decide (d.Start = 0))) && (decide (e.Flags = 8))) && (decide (e.Int_ = 2))))]) ?_ ?_
          ·refine WL.part 83 z (fun aD => ?_) (fun aD => ?_)
           ·refine ug z z (wY (yf fo37_7 z) z (ug z z (wY (yl ty3 z z (aq.cell 7 _ z)) z (ug z z (wY (Y.eql_i z z) z (wY (Y.pick (b := true) z z) z (WL.ren (v' := vB (((((((((((decide (n = 0)) && (decide (j = 0))) && (decide (m = 0))) && (decide (c.Flags = 1))) && (decide (c.Int_ = 5))) && (decide (c.Temp = 1))) && (decide (d.Flags = 0))) && (decide (d.Int_ = 8))) && (decide (d.Start = 0))) && (decide (e.Flags = 8))) && (decide (e.Int_ = 2)))) 87 z (congrArg vB (andT aD)) ?_)))))))
            exact nl (At.join () z (.cons z (.cons z .nil)))
           ·refine WL.gS z z z z (WL.gS z z z z (WL.gS z z z z (wY (Y.pick (b := false) z z) z (WL.ren (v' := vB (((((((((((decide (n = 0)) && (decide (j = 0))) && (decide (m = 0))) && (decide (c.Flags = 1))) && (decide (c.Int_ = 5))) && (decide (c.Temp = 1))) && (decide (d.Flags = 0))) && (decide (d.Int_ = 8))) && (decide (d.Start = 0))) && (decide (e.Flags = 8))) && (decide (e.Int_ = 2)))) 87 z (congrArg vB (andF aD)) ?_))))
            exact nl (At.join () z (.cons z (.cons z .nil)))
          ·rintro _ _ rfl
           refine (show WL _ _ _ _ _ [(8, pt q 0), (87, vB (((((((((((decide (n = 0)) && (decide (j = 0))) && (decide (m = 0))) && (decide (c.Flags = 1))) && (decide (c.Int_ = 5))) && (decide (c.Temp = 1))) && (decide (d.Flags = 0))) && (decide (d.Int_ = 8))) && (decide (d.Start = 0))) && (decide (e.Flags = 8))) && (decide (e.Int_ = 2))))] _ from ?_)
           refine wY (ym z) z ?_
           refine WL.cut 4 (σ := Unit) (fun _ w' => I = w') (fun _ => [(92, vB ((((((((((((decide (n = 0)) && (decide (j = 0))) && (decide (m = 0))) && (decide (c.Flags = 1))) && (decide (c.Int_ = 5))) && (decide (c.Temp = 1))) && (decide (d.Flags = 0))) && (decide (d.Int_ = 8))) && (decide (d.Start = 0))) && (decide (e.Flags = 8))) && (decide (e.Int_ = 2))) && (decide (e.Start = 25))))]) ?_ ?_
           ·refine WL.part 88 z (fun aE => ?_) (fun aE => ?_)
            ·refine ug z z (wY (yf fo37_5 z) z (ug z z (wY (yl ty3 z z (aq.cell 5 _ z)) z (ug z z (wY (Y.eql_i z z) z (wY (Y.pick (b := true) z z) z (WL.ren (v' := vB ((((((((((((decide (n = 0)) && (decide (j = 0))) && (decide (m = 0))) && (decide (c.Flags = 1))) && (decide (c.Int_ = 5))) && (decide (c.Temp = 1))) && (decide (d.Flags = 0))) && (decide (d.Int_ = 8))) && (decide (d.Start = 0))) && (decide (e.Flags = 8))) && (decide (e.Int_ = 2))) && (decide (e.Start = 25)))) 92 z (congrArg vB (andT aE)) ?_)))))))
             exact nl (At.join () z (.cons z .nil))
            ·refine WL.gS z z z z (WL.gS z z z z (WL.gS z z z z (wY (Y.pick (b := false) z z) z (WL.ren (v' := vB ((((((((((((decide (n = 0)) && (decide (j = 0))) && (decide (m = 0))) && (decide (c.Flags = 1))) && (decide (c.Int_ = 5))) && (decide (c.Temp = 1))) && (decide (d.Flags = 0))) && (decide (d.Int_ = 8))) && (decide (d.Start = 0))) && (decide (e.Flags = 8))) && (decide (e.Int_ = 2))) && (decide (e.Start = 25)))) 92 z (congrArg vB (andF aE)) ?_))))
             exact nl (At.join () z (.cons z .nil))
           ·rintro _ _ rfl
            refine (show WL _ _ _ _ _ [(92, vB ((((((((((((decide (n = 0)) && (decide (j = 0))) && (decide (m = 0))) && (decide (c.Flags = 1))) && (decide (c.Int_ = 5))) && (decide (c.Temp = 1))) && (decide (d.Flags = 0))) && (decide (d.Int_ = 8))) && (decide (d.Start = 0))) && (decide (e.Flags = 8))) && (decide (e.Int_ = 2))) && (decide (e.Start = 25))))] _ from ?_)
            obtain ⟨fU, d4, h⟩ := lt1 h
            refine WL.yE (ya z) (congrArg vB d4.symm) z (nl (th (rt ?_)))
            obtain rfl := some1 h
            have d5 : Stp [11, 12, 13, 14, 15, 16] (Lg.O0 (fun _ => False)) w fd I := (tr_ (su_ bm z) (tr_ (su_ bn z) (tr_ (su_ aG z) (tr_ (su_ X z) (tr_ (su_ S z) (tr_ (su_ T z) (tr_ (su_ aa z) (tr_ (su_ L z) (tr_ (su_ M z) (tr_ (su_ P z) (tr_ (su_ V z) (tr_ (su_ C z) (tr_ (su_ D z) (tr_ (su_ K z) (tr_ (su_ F z) (tr_ (su_ G z) (tr_ (su_ H z) (tr_ (su_ Q z) (tr_ (su_ t z) (tr_ (su_ r z) (tr_ (su_ E z) (su_ R z))))))))))))))))))))))
            exact At.res (.inl z) z (.tmp z .nil) ⟨z, (se_ d5 z z)⟩
theorem c_ref08_Light {A : Nat → Prop} {v0_3 : Value} {v0_5 : Value} {a0 : api_Hist} {w : World} (hs0_3 : Sl Rep.u w A v0_3 a0.Pos.Counts) (hs0_5 : Sl Rep.u w A v0_5 a0.Neg.Counts) {r0 : Bool} (h : ref08_Light a0 = some r0) : Rets Try.prog 18 [ag [vi a0.Scale, vu a0.Zero, vi a0.Pos.Offset, v0_3, vi a0.Neg.Offset, v0_5]] w (fun v w' => v = vB r0 ∧ Ext w w') := by
 unfold ref08_Light at h
 refine Rets.enter Try.func18 z z ?_
 have e : Sl Rep.u w (imm (Lg.O0 A)) v0_3 a0.Pos.Counts := (Sl.start hs0_3)
 have j : Sl Rep.u w (imm (Lg.O0 A)) v0_5 a0.Neg.Counts := (Sl.start hs0_5)
 refine (show WC _ _ _ _ [(0, ag [vi a0.Scale, vu a0.Zero, vi a0.Pos.Offset, v0_3, vi a0.Neg.Offset, v0_5])] _ from ?_)
 refine sq (rg ?_)
 have n := h
 obtain ⟨C, D, E, rfl⟩ := e.shape
 have h := n
 have o := h
 obtain ⟨F, G, H, rfl⟩ := j.shape
 have h := o
 refine WL.box (O := (Lg.O0 A)) 11 [vi a0.Scale, vu a0.Zero, vi a0.Pos.Offset, (Value.slice C D E), vi a0.Neg.Offset, (Value.slice F G H)] z z z ?_
 intro J I l c m
 refine wY (ya z) z (nl (th (sq (rg (wY (yf fo30_2 z) z (wY (yf fo28_1 z) z (wY (yl ty26 z z (m.cell 3 _ z)) z ?_)))))))
 have p := e.i c z z
 refine wY (Y.len ty26 z p) z (wY (Y.leq_i z z) z (wY (ym z) z ?_))
 refine WL.cut 6 (σ := Unit) (fun _ w' => l = w') (fun _ => [(14, vB ((decide ((a0.Pos.Counts.length : Int) ≤ 300)) && (decide ((a0.Neg.Counts.length : Int) ≤ 300))))]) ?_ ?_
 ·refine WL.part 8 z (fun d => ?_) (fun d => ?_)
  ·refine ug z z (wY (yf fo30_3 z) z (ug z z (wY (yf fo28_1 z) z (ug z z (wY (yl ty26 z z (m.cell 5 _ z)) z (ug z z ?_))))))
   have q := j.i c z z
   refine wY (Y.len ty26 z q) z (ug z z (wY (Y.leq_i z z) z (wY (Y.pick (b := true) z z) z (WL.ren (v' := vB ((decide ((a0.Pos.Counts.length : Int) ≤ 300)) && (decide ((a0.Neg.Counts.length : Int) ≤ 300)))) 14 z (congrArg vB (andT d)) ?_))))
   exact nl (At.join () z (.cons z .nil))
  ·refine WL.gS z z z z (WL.gS z z z z (WL.gS z z z z (WL.gS z z z z (WL.gS z z z z (wY (Y.pick (b := false) z z) z (WL.ren (v' := vB ((decide ((a0.Pos.Counts.length : Int) ≤ 300)) && (decide ((a0.Neg.Counts.length : Int) ≤ 300)))) 14 z (congrArg vB (andF d)) ?_))))))
   exact nl (At.join () z (.cons z .nil))
 ·rintro _ _ rfl
  refine (show WL _ _ _ _ _ [(14, vB ((decide ((a0.Pos.Counts.length : Int) ≤ 300)) && (decide ((a0.Neg.Counts.length : Int) ≤ 300))))] _ from ?_)
  obtain ⟨K, r, h⟩ := lt1 h
  refine WL.yE (ya z) (congrArg vB r.symm) z (nl (th (rt ?_)))
  obtain rfl := some1 h
  have t : Stp [] (Lg.O0 A) w I l := (su_ c z)
  exact At.res (.inl z) z (.tmp z .nil) ⟨z, (se_ t z z)⟩
theorem c_ref11_Light {A : Nat → Prop} {a0 : List api_Pair} {v0 : Value} {w : World} (hs0 : Sl rep_api_Pair w A v0 a0) {r0 : Bool} (h : ref11_Light a0 = some r0) : Rets Try.prog 42 [v0] w (fun v w' => v = vB r0 ∧ Ext w w') := by
 unfold ref11_Light at h
 refine Rets.enter Try.func42 z z ?_
 have c : Sl rep_api_Pair w (imm (Lg.O0 A)) v0 a0 := (Sl.start hs0)
 refine (show WC _ _ _ _ [(0, v0)] _ from ?_)
 refine sq (rg (wY (ya z) z (nl (th (sq (sq (rg (wY (ym z) z (wY (Y.len ty35 z c) z ?_)))))))))
 refine wY (Y.gtr_i z z) z (nl (th ?_))
 rcases cnd h with ⟨d, h⟩ | ⟨d, h⟩
 ·refine WC.condT' z d (sq (rg (wY (ya z) z (nl (th (rt (At.thenR ?_)))))))
  obtain rfl := some1 h
  have I : Stp [] (Lg.O0 A) w (Lg.O0 A) w := (sr_ _ _ _)
  exact At.res (.inl z) z (.tmp z .nil) ⟨z, (se_ I z z)⟩
 ·refine WC.condF' z d (sk (th (sq (sq (rg (wY (ya z) z (nl (th (WC.block ?_)))))))))
  obtain ⟨G, h, q⟩ := flow1 h
  obtain ⟨H, h⟩ := loop_some h
  refine WC.joinB 0 (σ := Unit) (fun x w' => G = .go () ∧ w = w') (fun x => []) ?_ ?_
  ·refine WC.loop (σ := Int) (fun x k w' => loopN k (ref11_Light_lp1 a0) x = some G ∧ w = w') (fun x => [(0, v0), (3, vi x)]) 0 H (.cons z (.cons z .nil)) ⟨h, z⟩ ?_
   rintro r H _ ⟨h, rfl⟩
   obtain ⟨aa, al, rfl, h, e⟩ := rnd1 h
   unfold ref11_Light_lp1 at h
   try dsimp only at h
   refine (show WC _ _ _ _ [(0, v0), (3, vi r)] _ from ?_)
   refine sq (sq (rg (wY (ym z) z (wY (ym z) z (wY (Y.len ty35 z c) z (wY (Y.lss_i z z) z (nl (th ?_))))))))
   rcases cnd h with ⟨j, h⟩ | ⟨j, h⟩
   ·refine WC.condT' z j (sk (th (sq (WC.block (sq (rg (wY (ym z) z (wY (ym z) z ?_))))))))
    obtain ⟨t, J, h⟩ := bnd h
    obtain ⟨am, ae, af, aj, K, L, M, l, C, P⟩ := Sl.at2 c J
    obtain ⟨_, _, rfl, rfl, rfl⟩ := C
    replace l : CellsAt _ _ _ [vs t.Key, vs t.Val] := l
    have D := CAt.imm l P
    refine wY (Y.indexAddr ty35 ty107 z K z L M) z (wY (yf fo107_0 z) z (wY (yl ty9 z z (D.at_.sub 0 [vs t.Key] z)) z (wY (Y.len_s ty9 z) z (wY (Y.gtr_i z z) z (wY (ym z) z ?_)))))
    obtain ⟨ab, h, Q⟩ := bnd h
    refine WL.cut 8 (σ := Bool) (fun x w' => x = ab ∧ w = w') (fun x => [(0, v0), (3, vi r), (28, vB x)]) ?_ ?_
    ·rcases cnd h with ⟨m, h⟩ | ⟨m, h⟩
     ·refine WL.ren 20 z (congrArg vB m) (WL.gS z z z z (WL.gS z z z z (WL.gS z z z z (WL.gS z z z z (WL.gS z z z z (WL.gS z z z z (WL.gS z z z z (wY (Y.pick (b := true) z z) z ?_))))))))
      exact nl (At.join (σ := Bool) true ⟨some1 h, z⟩ (.cons z (.cons z (.cons z .nil))))
     ·refine WL.ren 20 z (congrArg vB m) (ug z z (wY (ym z) z (ug z z (wY (ym z) z (ug z z ?_)))))
      obtain ⟨p, R, h⟩ := bnd h
      obtain ⟨an, ah, ai, ak, S, T, U, n, E, V⟩ := Sl.at2 c R
      obtain ⟨_, _, rfl, rfl, rfl⟩ := E
      replace n : CellsAt _ _ _ [vs p.Key, vs p.Val] := n
      have F := CAt.imm n V
      refine wY (Y.indexAddr ty35 ty107 z S z T U) z (ug z z (wY (yf fo107_1 z) z (ug z z (wY (yl ty9 z z (F.at_.sub 1 [vs p.Val] z)) z (ug z z (wY (Y.len_s ty9 z) z (ug z z (wY (Y.gtr_i z z) z (wY (Y.pick (b := false) z z) z ?_)))))))))
      exact nl (At.join (σ := Bool) (decide (100 < (p.Val.length : Int))) ⟨some1 h, z⟩ (.cons z (.cons z (.cons z .nil))))
    ·rintro ac _ ⟨rfl, rfl⟩
     replace h := Q
     try dsimp only at h
     refine (show WL _ _ _ _ _ [(0, v0), (3, vi r), (28, vB ac)] _ from ?_)
     refine nl (th ?_)
     rcases cnd h with ⟨o, h⟩ | ⟨o, h⟩
     ·refine WC.condT' z o (sq (rg (wY (ya z) z (nl (th (rt (At.inBlockR (At.thenR (At.loopR ?_)))))))))
      have h := outr1 h e q
      refine At.joinBR (At.inBlockR (At.thenR ?_))
      obtain rfl := some1 h
      have W : Stp [] (Lg.O0 A) w (Lg.O0 A) w := (sr_ _ _ _)
      exact At.res (.inl z) z (.tmp z .nil) ⟨z, (se_ W z z)⟩
     ·refine WC.condF' z o (sk (At.inBlock (th (rg (wY (ym z) z (wY (Y.add_i z z) z ?_))))))
      obtain ⟨ad, X, h⟩ := lt1 h
      refine WL.yE (ya z) (congrArg vi X.symm) z (nl ?_)
      exact At.round ad aa (Nat.lt_succ_self _) ⟨next1 h e, z⟩ (.cons z (.cons z .nil))
   ·refine WC.condF' z j (WC.exit (At.thenX (At.loopX ?_)))
    exact At.hitB (σ := Unit) () ⟨brk1 h e, z⟩ .nil
  ·rintro _ _ ⟨rfl, rfl⟩
   replace h := flowK_go q
   refine (show At _ _ _ [] _ from ?_)
   refine At.inBlockHit (th (sq (rg (wY (ya z) z (nl (th (rt ?_)))))))
   obtain rfl := some1 h
   have Z : Stp [] (Lg.O0 A) w (Lg.O0 A) w := (sr_ _ _ _)
   exact At.res (.inl z) z (.tmp z .nil) ⟨z, (se_ Z z z)⟩
theorem c_ref12_Light {A : Nat → Prop} {v0_1 : Value} {v0_13 : Value} {v0_15 : Value} {a0 : api_Point} {w : World} (hs0_1 : Sl rep_api_Pair w A v0_1 a0.Attrs) (hs0_13 : Sl Rep.u w A v0_13 a0.Hist.Pos.Counts) (hs0_15 : Sl Rep.u w A v0_15 a0.Hist.Neg.Counts) {r0 : Bool} (h : ref12_Light a0 = some r0) : Rets Try.prog 17 [ag [vs a0.Name, v0_1, vi a0.Kind, vi a0.Temp, vB a0.Mono, vi a0.Start, vi a0.Time, vi a0.Int_, vu a0.Re, vu a0.Im, vi a0.Hist.Scale, vu a0.Hist.Zero, vi a0.Hist.Pos.Offset, v0_13, vi a0.Hist.Neg.Offset, v0_15, vi a0.Flags]] w (fun v w' => v = vB r0 ∧ Ext w w') := by
 unfold ref12_Light at h
 refine Rets.enter Try.func17 z z ?_
 have n : Sl rep_api_Pair w (imm (Lg.O0 A)) v0_1 a0.Attrs := (Sl.start hs0_1)
 have o : Sl Rep.u w (imm (Lg.O0 A)) v0_13 a0.Hist.Pos.Counts := (Sl.start hs0_13)
 have p : Sl Rep.u w (imm (Lg.O0 A)) v0_15 a0.Hist.Neg.Counts := (Sl.start hs0_15)
 refine (show WC _ _ _ _ [(0, ag [vs a0.Name, v0_1, vi a0.Kind, vi a0.Temp, vB a0.Mono, vi a0.Start, vi a0.Time, vi a0.Int_, vu a0.Re, vu a0.Im, vi a0.Hist.Scale, vu a0.Hist.Zero, vi a0.Hist.Pos.Offset, v0_13, vi a0.Hist.Neg.Offset, v0_15, vi a0.Flags])] _ from ?_)
 refine sq (rg ?_)
 have P := h
 obtain ⟨J, K, L, rfl⟩ := n.shape
 have h := P
 have Q := h
 obtain ⟨q, r, t, rfl⟩ := o.shape
 have h := Q
 have R := h
 obtain ⟨C, D, E, rfl⟩ := p.shape
 have h := R
 refine WL.box (O := (Lg.O0 A)) 11 [vs a0.Name, (Value.slice J K L), vi a0.Kind, vi a0.Temp, vB a0.Mono, vi a0.Start, vi a0.Time, vi a0.Int_, vu a0.Re, vu a0.Im, vi a0.Hist.Scale, vu a0.Hist.Zero, vi a0.Hist.Pos.Offset, (Value.slice q r t), vi a0.Hist.Neg.Offset, (Value.slice C D E), vi a0.Flags] z z z ?_
 intro M F S d e
 refine wY (ya z) z (nl (th (sq (rg (wY (yf fo37_0 z) z (wY (yl ty9 z z (e.cell 0 _ z)) z (wY (Y.len_s ty9 z) z (wY (Y.leq_i z z) z (wY (ym z) z ?_)))))))))
 obtain ⟨ak, h, T⟩ := bnd h
 refine WL.cut 4 (σ := (Bool × Own)) (fun x w' => x.1 = ak ∧ Stp [] F S x.2 w') (fun x => [(1, pt M 0), (11, vB x.1)]) ?_ ?_
 ·rcases cnd h with ⟨j, h⟩ | ⟨j, h⟩
  ·refine WL.ren 7 z (congrArg vB j) (ug z z (wY (yf fo37_1 z) z (ug z z (wY (yl ty35 z z (e.cell 1 _ z)) z (ug z z ?_)))))
   have U := n.i d z z
   obtain ⟨al, V, h⟩ := bnd h
   refine WL.call (vals := [(Value.slice J K L)]) kok42 z z (c_ref11_Light (A := fun _ => True) (Sl.all U) V) ?_
   rintro az aA ⟨rfl, W⟩
   obtain ⟨am, an, ao, H⟩ := adoptE F (fun k => 1) W
   refine wY (Y.pick (b := true) z z) z ?_
   exact nl (At.join (σ := (Bool × Own)) (al, am) ⟨some1 h, (su_ H z)⟩ (.cons z (.cons z .nil)))
  ·refine WL.ren 7 z (congrArg vB j) (WL.gS z z z z (WL.gS z z z z (WL.gS z z z z (wY (Y.pick (b := false) z z) z ?_))))
   exact nl (At.join (σ := (Bool × Own)) (false, F) ⟨some1 h, (sr_ _ _ _)⟩ (.cons z (.cons z .nil)))
 ·rintro ⟨ap, G⟩ X ⟨rfl, c⟩
  replace h := T
  try dsimp only at h c
  refine (show WL _ _ _ _ _ [(1, pt M 0), (11, vB ap)] _ from ?_)
  refine wY (ym z) z ?_
  obtain ⟨aq, h, Z⟩ := bnd h
  refine WL.cut 4 (σ := (Bool × Own)) (fun x w' => x.1 = aq ∧ Stp [] G X x.2 w') (fun x => [(16, vB x.1)]) ?_ ?_
  ·rcases cnd h with ⟨l, h⟩ | ⟨l, h⟩
   ·refine WL.ren 12 z (congrArg vB l) (ug z z (wY (yf fo37_10 z) z (ug z z ?_)))
    have aa := e.st c z
    refine wY (yL ty30 z z (aa.cells 10 [vi a0.Hist.Scale, vu a0.Hist.Zero, vi a0.Hist.Pos.Offset, (Value.slice q r t), vi a0.Hist.Neg.Offset, (Value.slice C D E)] z) z) z (ug z z ?_)
    have ab := o.i d z z
    have ac := ab.i c z z
    have ad := p.i d z z
    have ae := ad.i c z z
    obtain ⟨ar, af, h⟩ := bnd h
    refine WL.call (vals := [ag [vi a0.Hist.Scale, vu a0.Hist.Zero, vi a0.Hist.Pos.Offset, (Value.slice q r t), vi a0.Hist.Neg.Offset, (Value.slice C D E)]]) kok18 z z (c_ref08_Light (A := fun _ => True) (a0 := a0.Hist) (Sl.all ac) (Sl.all ae) af) ?_
    rintro aC aD ⟨rfl, ah⟩
    obtain ⟨au, av, aw, I⟩ := adoptE G (fun k => 1) ah
    refine wY (Y.pick (b := true) z z) z ?_
    exact nl (At.join (σ := (Bool × Own)) (ar, au) ⟨some1 h, (su_ I z)⟩ (.cons z .nil))
   ·refine WL.ren 12 z (congrArg vB l) (WL.gS z z z z (WL.gS z z z z (WL.gS z z z z (wY (Y.pick (b := false) z z) z ?_))))
    exact nl (At.join (σ := (Bool × Own)) (false, G) ⟨some1 h, (sr_ _ _ _)⟩ (.cons z .nil))
  ·rintro ⟨ax, ay⟩ ai ⟨rfl, m⟩
   replace h := Z
   try dsimp only at h m
   refine (show WL _ _ _ _ _ [(16, vB ax)] _ from ?_)
   refine wY (ya z) z (nl (th (rt ?_)))
   obtain rfl := some1 h
   have aj : Stp [] (Lg.O0 A) w ay ai := (tr_ (su_ d z) (tr_ (su_ c z) (su_ m z)))
   exact At.res (.inl z) z (.tmp z .nil) ⟨z, (se_ aj z z)⟩
theorem c_ref08_SameSide {A : Nat → Prop} {v0_1 : Value} {a0 : api_Side} {v1_1 : Value} {a1 : api_Side} {w : World} (hs0_1 : Sl Rep.u w A v0_1 a0.Counts) (hs1_1 : Sl Rep.u w A v1_1 a1.Counts) {r0 : Bool} (h : ref08_SameSide a0 a1 = some r0) : Rets Try.prog 56 [ag [vi a0.Offset, v0_1], ag [vi a1.Offset, v1_1]] w (fun v w' => v = vB r0 ∧ Ext w w') := by
 unfold ref08_SameSide at h
 refine Rets.enter Try.func56 z z ?_
 have m : Sl Rep.u w (imm (Lg.O0 A)) v0_1 a0.Counts := (Sl.start hs0_1)
 have W : Sl Rep.u w (imm (Lg.O0 A)) v1_1 a1.Counts := (Sl.start hs1_1)
 refine (show WC _ _ _ _ [(0, ag [vi a0.Offset, v0_1]), (1, ag [vi a1.Offset, v1_1])] _ from ?_)
 refine sq (rg ?_)
 have X := h
 obtain ⟨aH, aI, aJ, rfl⟩ := m.shape
 have h := X
 refine WL.box (O := (Lg.O0 A)) 11 [vi a0.Offset, (Value.slice aH aI aJ)] z z z ?_
 intro G aK aZ e Z
 have n := W.i e z z
 have aa := h
 obtain ⟨aL, aM, aN, rfl⟩ := n.shape
 have h := aa
 refine WL.box (O := aK) 12 [vi a1.Offset, (Value.slice aL aM aN)] z z z ?_
 intro H I l c o
 refine wY (ya z) z (nl (th (sq (sq (rg (wY (yf fo28_0 z) z ?_))))))
 have p := Z.st c z
 refine wY (yl ty3 z z (p.cell 0 _ z)) z (wY (yf fo28_0 z) z (wY (yl ty3 z z (o.cell 0 _ z)) z (wY (Y.neq_i z z) z (wY (ym z) z ?_))))
 refine WL.cut 8 (σ := Unit) (fun _ w' => l = w') (fun _ => [(2, pt G 0), (3, pt H 0), (19, vB ((!decide (a0.Offset = a1.Offset)) || (!decide ((a0.Counts.length : Int) = (a1.Counts.length : Int)))))]) ?_ ?_
 ·refine WL.part 11 z (fun q => ?_) (fun q => ?_)
  ·refine WL.gS z z z z (WL.gS z z z z (WL.gS z z z z (WL.gS z z z z (WL.gS z z z z (WL.gS z z z z (WL.gS z z z z (wY (Y.pick (b := true) z z) z (WL.ren (v' := vB ((!decide (a0.Offset = a1.Offset)) || (!decide ((a0.Counts.length : Int) = (a1.Counts.length : Int))))) 19 z (congrArg vB (orT q)) ?_))))))))
   exact nl (At.join () z (.cons z (.cons z (.cons z .nil))))
  ·refine ug z z (wY (yf fo28_1 z) z (ug z z (wY (yl ty26 z z (p.cell 1 _ z)) z (ug z z ?_))))
   have ab := m.i e z z
   have ac := ab.i c z z
   refine wY (Y.len ty26 z ac) z (ug z z (wY (yf fo28_1 z) z (ug z z (wY (yl ty26 z z (o.cell 1 _ z)) z (ug z z ?_)))))
   have ad := n.i c z z
   refine wY (Y.len ty26 z ad) z (ug z z (wY (Y.neq_i z z) z (wY (Y.pick (b := false) z z) z (WL.ren (v' := vB ((!decide (a0.Offset = a1.Offset)) || (!decide ((a0.Counts.length : Int) = (a1.Counts.length : Int))))) 19 z (congrArg vB (orF q)) ?_))))
   exact nl (At.join () z (.cons z (.cons z (.cons z .nil))))
 ·rintro _ _ rfl
  refine (show WL _ _ _ _ _ [(2, pt G 0), (3, pt H 0), (19, vB ((!decide (a0.Offset = a1.Offset)) || (!decide ((a0.Counts.length : Int) = (a1.Counts.length : Int)))))] _ from ?_)
  refine nl (th ?_)
  rcases cnd h with ⟨r, h⟩ | ⟨r, h⟩
  ·refine WC.condT' z r (sq (rg (wY (ya z) z (nl (th (rt (At.thenR ?_)))))))
   obtain rfl := some1 h
   have ae : Stp [] (Lg.O0 A) w I l := (tr_ (su_ e z) (su_ c z))
   exact At.res (.inl z) z (.tmp z .nil) ⟨z, (se_ ae z z)⟩
  ·refine WC.condF' z r (sk (th (sq (sq (rg (wY (ya z) z (nl (th (WC.block ?_)))))))))
   obtain ⟨U, h, K⟩ := flow1 h
   obtain ⟨V, h⟩ := loop_some h
   refine WC.joinB 0 (σ := Own) (fun x w' => U = .go () ∧ Stp [] I l x w') (fun x => []) ?_ ?_
   ·refine WC.loop (σ := (Int × Own)) (fun x k w' => loopN k (ref08_SameSide_lp1 a0 a1) x.1 = some U ∧ Stp [] I l x.2 w') (fun x => [(2, pt G 0), (3, pt H 0), (5, vi x.1)]) (0, I) V (.cons z (.cons z (.cons z .nil))) ⟨h, (sr_ _ _ _)⟩ ?_
    rintro ⟨aO, J⟩ V a2 ⟨h, d⟩
    obtain ⟨aP, a5, rfl, h, t⟩ := rnd1 h
    unfold ref08_SameSide_lp1 at h
    try dsimp only at h d
    refine (show WC _ _ _ _ [(2, pt G 0), (3, pt H 0), (5, vi aO)] _ from ?_)
    refine sq (sq (rg (wY (ym z) z (wY (yf fo28_1 z) z ?_))))
    have L := p.st d z
    refine wY (yl ty26 z z (L.cell 1 _ z)) z ?_
    have af := m.i e z z
    have ah := af.i c z z
    have M := ah.i d z z
    refine wY (Y.len ty26 z M) z (wY (Y.lss_i z z) z (nl (th ?_)))
    rcases cnd h with ⟨C, h⟩ | ⟨C, h⟩
    ·refine WC.condT' z C (sk (th (sq (WC.block (sq (WC.draw 10 J fmix (by kernel_rfl) ?_))))))
     intro ai j
     refine WS.y (yf fo28_1 z) z ?_
     have aj := L.st j z
     refine WS.y (yl ty26 z z (aj.cell 1 _ z)) z (WS.y (ym z) z ?_)
     obtain ⟨aQ, ak, h⟩ := bnd h
     have al := M.i j z z
     obtain ⟨a6, aU, aW, a3, am, an, ao, D, P, ap⟩ := Sl.at2 al ak
     obtain rfl := P
     replace D : CellsAt _ _ _ [vu aQ] := D
     have Q := CAt.imm D ap
     refine WS.y (Y.indexAddr ty26 ty25 z am z an ao) z (WS.y (yl ty25 z z Q.at_) z (WS.y (yf fo28_1 z) z ?_))
     have aq := o.st d z
     have ar := aq.st j z
     refine WS.y (yl ty26 z z (ar.cell 1 _ z)) z (WS.y (ym z) z ?_)
     obtain ⟨aR, au, h⟩ := bnd h
     have av := n.i c z z
     have aw := av.i d z z
     have ax := aw.i j z z
     obtain ⟨a7, aX, aY, a4, ay, az, aA, E, R, aC⟩ := Sl.at2 ax au
     obtain rfl := R
     replace E : CellsAt _ _ _ [vu aR] := E
     have S := CAt.imm E aC
     refine WS.y (Y.indexAddr ty26 ty25 z ay z az aA) z (WS.y (yl ty25 z z S.at_) z (WS.tail (wY (Y.neq_u z z) z (nl (th ?_)))))
     rcases cnd h with ⟨F, h⟩ | ⟨F, h⟩
     ·refine WC.condT' z F (sq (rg (wY (ya z) z (nl (th (rt (At.inBlockR (At.thenR (At.loopR ?_)))))))))
      have h := outr1 h t K
      refine At.joinBR (At.inBlockR (At.thenR ?_))
      obtain rfl := some1 h
      have aD : Stp [] (Lg.O0 A) w J ai := (tr_ (su_ e z) (tr_ (su_ c z) (tr_ (su_ d z) (su_ j z))))
      exact At.res (.inl z) z (.tmp z .nil) ⟨z, (se_ aD z z)⟩
     ·refine WC.condF' z F (sk (At.inBlock (th (rg (wY (ym z) z (wY (Y.add_i z z) z ?_))))))
      obtain ⟨aS, aE, h⟩ := lt1 h
      refine WL.yE (ya z) (congrArg vi aE.symm) z (nl ?_)
      exact At.round (aS, J) aP (Nat.lt_succ_self _) ⟨next1 h t, (tr_ (su_ d z) (su_ j z))⟩ (.cons z (.cons z (.cons z .nil)))
    ·refine WC.condF' z C (WC.exit (At.thenX (At.loopX ?_)))
     exact At.hitB (σ := Own) J ⟨brk1 h t, (su_ d z)⟩ .nil
   ·rintro aT aF ⟨rfl, T⟩
    replace h := flowK_go K
    refine (show At _ _ _ [] _ from ?_)
    refine At.inBlockHit (th (sq (rg (wY (ya z) z (nl (th (rt ?_)))))))
    obtain rfl := some1 h
    have aG : Stp [] (Lg.O0 A) w aT aF := (tr_ (su_ e z) (tr_ (su_ c z) (su_ T z)))
    exact At.res (.inl z) z (.tmp z .nil) ⟨z, (se_ aG z z)⟩
theorem c_ref08_Same {A : Nat → Prop} {v0_3 : Value} {v0_5 : Value} {a0 : api_Hist} {v1_3 : Value} {v1_5 : Value} {a1 : api_Hist} {w : World} (hs0_3 : Sl Rep.u w A v0_3 a0.Pos.Counts) (hs0_5 : Sl Rep.u w A v0_5 a0.Neg.Counts) (hs1_3 : Sl Rep.u w A v1_3 a1.Pos.Counts) (hs1_5 : Sl Rep.u w A v1_5 a1.Neg.Counts) {r0 : Bool} (h : ref08_Same a0 a1 = some r0) : Rets Try.prog 26 [ag [vi a0.Scale, vu a0.Zero, vi a0.Pos.Offset, v0_3, vi a0.Neg.Offset, v0_5], ag [vi a1.Scale, vu a1.Zero, vi a1.Pos.Offset, v1_3, vi a1.Neg.Offset, v1_5]] w (fun v w' => v = vB r0 ∧ Ext w w') := by
 unfold ref08_Same at h
 refine Rets.enter Try.func26 z z ?_
 have t : Sl Rep.u w (imm (Lg.O0 A)) v0_3 a0.Pos.Counts := (Sl.start hs0_3)
 have C : Sl Rep.u w (imm (Lg.O0 A)) v0_5 a0.Neg.Counts := (Sl.start hs0_5)
 have Z : Sl Rep.u w (imm (Lg.O0 A)) v1_3 a1.Pos.Counts := (Sl.start hs1_3)
 have aa : Sl Rep.u w (imm (Lg.O0 A)) v1_5 a1.Neg.Counts := (Sl.start hs1_5)
 refine (show WC _ _ _ _ [(0, ag [vi a0.Scale, vu a0.Zero, vi a0.Pos.Offset, v0_3, vi a0.Neg.Offset, v0_5]), (1, ag [vi a1.Scale, vu a1.Zero, vi a1.Pos.Offset, v1_3, vi a1.Neg.Offset, v1_5])] _ from ?_)
 refine sq (rg ?_)
 have ab := h
 obtain ⟨D, E, F, rfl⟩ := t.shape
 have h := ab
 have ac := h
 obtain ⟨G, H, I, rfl⟩ := C.shape
 have h := ac
 refine WL.box (O := (Lg.O0 A)) 11 [vi a0.Scale, vu a0.Zero, vi a0.Pos.Offset, (Value.slice D E F), vi a0.Neg.Offset, (Value.slice G H I)] z z z ?_
 intro p aD aQ e ad
 have J := Z.i e z z
 have ae := h
 obtain ⟨K, L, M, rfl⟩ := J.shape
 have h := ae
 have P := aa.i e z z
 have af := h
 obtain ⟨Q, R, S, rfl⟩ := P.shape
 have h := af
 refine WL.box (O := aD) 12 [vi a1.Scale, vu a1.Zero, vi a1.Pos.Offset, (Value.slice K L M), vi a1.Neg.Offset, (Value.slice Q R S)] z z z ?_
 intro q T U c j
 refine wY (ya z) z (nl (th (sq (rg (wY (yf fo30_0 z) z ?_)))))
 have l := ad.st c z
 refine wY (yl ty3 z z (l.cell 0 _ z)) z (wY (yf fo30_0 z) z (wY (yl ty3 z z (j.cell 0 _ z)) z (wY (Y.eql_i z z) z (wY (ym z) z ?_))))
 refine WL.cut 6 (σ := Unit) (fun _ w' => U = w') (fun _ => [(2, pt p 0), (3, pt q 0), (16, vB ((decide (a0.Scale = a1.Scale)) && (decide (a0.Zero = a1.Zero))))]) ?_ ?_
 ·refine WL.part 10 z (fun m => ?_) (fun m => ?_)
  ·refine ug z z (wY (yf fo30_1 z) z (ug z z (wY (yl ty25 z z (l.cell 1 _ z)) z (ug z z (wY (yf fo30_1 z) z (ug z z (wY (yl ty25 z z (j.cell 1 _ z)) z (ug z z (wY (Y.eql_u z z) z ?_)))))))))
   refine wY (Y.pick (b := true) z z) z (WL.ren (v' := vB ((decide (a0.Scale = a1.Scale)) && (decide (a0.Zero = a1.Zero)))) 16 z (congrArg vB (andT m)) ?_)
   exact nl (At.join () z (.cons z (.cons z (.cons z .nil))))
  ·refine WL.gS z z z z (WL.gS z z z z (WL.gS z z z z (WL.gS z z z z (WL.gS z z z z (wY (Y.pick (b := false) z z) z (WL.ren (v' := vB ((decide (a0.Scale = a1.Scale)) && (decide (a0.Zero = a1.Zero)))) 16 z (congrArg vB (andF m)) ?_))))))
   exact nl (At.join () z (.cons z (.cons z (.cons z .nil))))
 ·rintro _ _ rfl
  refine (show WL _ _ _ _ _ [(2, pt p 0), (3, pt q 0), (16, vB ((decide (a0.Scale = a1.Scale)) && (decide (a0.Zero = a1.Zero))))] _ from ?_)
  refine wY (ym z) z ?_
  obtain ⟨aE, h, ah⟩ := bnd h
  refine WL.cut 6 (σ := (Bool × Own)) (fun x w' => x.1 = aE ∧ Stp [] T U x.2 w') (fun x => [(2, pt p 0), (3, pt q 0), (23, vB x.1)]) ?_ ?_
  ·rcases cnd h with ⟨n, h⟩ | ⟨n, h⟩
   ·refine WL.ren 17 z (congrArg vB n) (ug z z (wY (yf fo30_2 z) z (ug z z (wY (yL ty28 z z (l.cells 2 [vi a0.Pos.Offset, (Value.slice D E F)] z) z) z (ug z z (wY (yf fo30_2 z) z (ug z z (wY (yL ty28 z z (j.cells 2 [vi a1.Pos.Offset, (Value.slice K L M)] z) z) z (ug z z ?_)))))))))
    have ai := t.i e z z
    have aj := ai.i c z z
    have ak := J.i c z z
    obtain ⟨aF, al, h⟩ := bnd h
    refine WL.call (vals := [ag [vi a0.Pos.Offset, (Value.slice D E F)], ag [vi a1.Pos.Offset, (Value.slice K L M)]]) kok56 z z (c_ref08_SameSide (A := fun _ => True) (a0 := a0.Pos) (a1 := a1.Pos) (Sl.all aj) (Sl.all ak) al) ?_
    rintro aR aS ⟨rfl, am⟩
    obtain ⟨aG, aH, aI, W⟩ := adoptE T (fun k => 1) am
    refine wY (Y.pick (b := true) z z) z ?_
    exact nl (At.join (σ := (Bool × Own)) (aF, aG) ⟨some1 h, (su_ W z)⟩ (.cons z (.cons z (.cons z .nil))))
   ·refine WL.ren 17 z (congrArg vB n) (WL.gS z z z z (WL.gS z z z z (WL.gS z z z z (WL.gS z z z z (WL.gS z z z z (wY (Y.pick (b := false) z z) z ?_))))))
    exact nl (At.join (σ := (Bool × Own)) (false, T) ⟨some1 h, (sr_ _ _ _)⟩ (.cons z (.cons z (.cons z .nil))))
  ·rintro ⟨aJ, V⟩ an ⟨rfl, d⟩
   replace h := ah
   try dsimp only at h d
   refine (show WL _ _ _ _ _ [(2, pt p 0), (3, pt q 0), (23, vB aJ)] _ from ?_)
   refine wY (ym z) z ?_
   obtain ⟨aK, h, ao⟩ := bnd h
   refine WL.cut 6 (σ := (Bool × Own)) (fun x w' => x.1 = aK ∧ Stp [] V an x.2 w') (fun x => [(30, vB x.1)]) ?_ ?_
   ·rcases cnd h with ⟨o, h⟩ | ⟨o, h⟩
    ·refine WL.ren 24 z (congrArg vB o) (ug z z (wY (yf fo30_3 z) z (ug z z ?_)))
     have ap := l.st d z
     refine wY (yL ty28 z z (ap.cells 4 [vi a0.Neg.Offset, (Value.slice G H I)] z) z) z (ug z z (wY (yf fo30_3 z) z (ug z z ?_)))
     have aq := j.st d z
     refine wY (yL ty28 z z (aq.cells 4 [vi a1.Neg.Offset, (Value.slice Q R S)] z) z) z (ug z z ?_)
     have ar := C.i e z z
     have au := ar.i c z z
     have av := au.i d z z
     have aw := P.i c z z
     have ax := aw.i d z z
     obtain ⟨aL, ay, h⟩ := bnd h
     refine WL.call (vals := [ag [vi a0.Neg.Offset, (Value.slice G H I)], ag [vi a1.Neg.Offset, (Value.slice Q R S)]]) kok56 z z (c_ref08_SameSide (A := fun _ => True) (a0 := a0.Neg) (a1 := a1.Neg) (Sl.all av) (Sl.all ax) ay) ?_
     rintro aT aU ⟨rfl, az⟩
     obtain ⟨aM, aN, aO, X⟩ := adoptE V (fun k => 1) az
     refine wY (Y.pick (b := true) z z) z ?_
     exact nl (At.join (σ := (Bool × Own)) (aL, aM) ⟨some1 h, (su_ X z)⟩ (.cons z .nil))
    ·refine WL.ren 24 z (congrArg vB o) (WL.gS z z z z (WL.gS z z z z (WL.gS z z z z (WL.gS z z z z (WL.gS z z z z (wY (Y.pick (b := false) z z) z ?_))))))
     exact nl (At.join (σ := (Bool × Own)) (false, V) ⟨some1 h, (sr_ _ _ _)⟩ (.cons z .nil))
   ·rintro ⟨x64, aP⟩ aA ⟨rfl, r⟩
    replace h := ao
    try dsimp only at h r
    refine (show WL _ _ _ _ _ [(30, vB x64)] _ from ?_)
    refine wY (ya z) z (nl (th (rt ?_)))
    obtain rfl := some1 h
    have aC : Stp [] (Lg.O0 A) w aP aA := (tr_ (su_ e z) (tr_ (su_ c z) (tr_ (su_ d z) (su_ r z))))
    exact At.res (.inl z) z (.tmp z .nil) ⟨z, (se_ aC z z)⟩
theorem c_ref16_Own {A : Nat → Prop} {v0_9 : Value} {v0_11 : Value} {a0 : api_State} {a1 : Int} {w : World} (hs0_9 : Sl Rep.u w A v0_9 a0.Hist.Pos.Counts) (hs0_11 : Sl Rep.u w A v0_11 a0.Hist.Neg.Counts) {r0 : Bool} (h : ref16_Own a0 a1 = some r0) : Rets Try.prog 19 [ag [vB a0.Some, vi a0.Start, vi a0.Time, vi a0.Int_, vu a0.Re, vu a0.Im, vi a0.Hist.Scale, vu a0.Hist.Zero, vi a0.Hist.Pos.Offset, v0_9, vi a0.Hist.Neg.Offset, v0_11], vi a1] w (fun v w' => v = vB r0 ∧ Ext w w') := by
 unfold ref16_Own at h
 refine Rets.enter Try.func19 z z ?_
 have I : Sl Rep.u w (imm (Lg.O0 A)) v0_9 a0.Hist.Pos.Counts := (Sl.start hs0_9)
 have J : Sl Rep.u w (imm (Lg.O0 A)) v0_11 a0.Hist.Neg.Counts := (Sl.start hs0_11)
 refine (show WC _ _ _ _ [(0, ag [vB a0.Some, vi a0.Start, vi a0.Time, vi a0.Int_, vu a0.Re, vu a0.Im, vi a0.Hist.Scale, vu a0.Hist.Zero, vi a0.Hist.Pos.Offset, v0_9, vi a0.Hist.Neg.Offset, v0_11]), (1, vi a1)] _ from ?_)
 refine sq (rg ?_)
 have V := h
 obtain ⟨K, L, M, rfl⟩ := I.shape
 have h := V
 have W := h
 obtain ⟨P, Q, R, rfl⟩ := J.shape
 have h := W
 refine WL.box (O := (Lg.O0 A)) 11 [vB a0.Some, vi a0.Start, vi a0.Time, vi a0.Int_, vu a0.Re, vu a0.Im, vi a0.Hist.Scale, vu a0.Hist.Zero, vi a0.Hist.Pos.Offset, (Value.slice K L M), vi a0.Hist.Neg.Offset, (Value.slice P Q R)] z z z ?_
 intro U ar aw j l
 refine wY (ya z) z (nl (th (sq (rg (wY (yf fo32_6 z) z (wY (yL ty30 z z (l.cells 6 [vi a0.Hist.Scale, vu a0.Hist.Zero, vi a0.Hist.Pos.Offset, (Value.slice K L M), vi a0.Hist.Neg.Offset, (Value.slice P Q R)] z) z) z (wY (yb (vals := []) (cells := [vi 0, vu 0, vi 0, Value.slice none 0 0, vi 0, Value.slice none 0 0]) (fe_ z) (by kernel_rfl)) z ?_)))))))
 have X := I.i j z z
 have Z := J.i j z z
 obtain ⟨d, aa, h⟩ := bnd h
 refine WL.call (vals := [ag [vi a0.Hist.Scale, vu a0.Hist.Zero, vi a0.Hist.Pos.Offset, (Value.slice K L M), vi a0.Hist.Neg.Offset, (Value.slice P Q R)], ag [vi 0, vu 0, vi 0, Value.slice none 0 0, vi 0, Value.slice none 0 0]]) kok26 z z (c_ref08_Same (A := fun _ => True) (a0 := a0.Hist) (a1 := (api_Hist.mk 0 0 (api_Side.mk 0 []) (api_Side.mk 0 []))) (Sl.all X) (Sl.all Z) (Or.inl ⟨z, z⟩) (Or.inl ⟨z, z⟩) aa) ?_
 rintro ax c ⟨rfl, ab⟩
 obtain ⟨m, au, av, e⟩ := adoptE ar (fun k => 1) ab
 refine wY (ya z) z (nl (th (sq (sq (rg (wY (ym z) z (nl (th (WC.block ?_)))))))))
 refine sq (rg (wY (Y.eql_i z z) z ?_))
 obtain ⟨ay, ac, h⟩ := lt1 h
 refine WL.yE (ya z) (congrArg vB ac.symm) z (nl (th ?_))
 rcases cnd h with ⟨n, h⟩ | ⟨n, h⟩
 ·refine WC.condT' z n (sq (rg (wY (yf fo32_4 z) z ?_)))
  have S := l.st e z
  refine wY (yl ty25 z z (S.cell 4 _ z)) z (wY (Y.eql_u (b := 0) z z) z (wY (ym z) z ?_))
  refine WL.cut 4 (σ := Unit) (fun _ w' => c = w') (fun _ => [(5, vB d), (20, vB ((decide (a0.Re = 0)) && (decide (a0.Im = 0))))]) ?_ ?_
  ·refine WL.part 16 z (fun o => ?_) (fun o => ?_)
   ·refine ug z z (wY (yf fo32_5 z) z (ug z z (wY (yl ty25 z z (S.cell 5 _ z)) z (ug z z (wY (Y.eql_u (b := 0) z z) z (wY (Y.pick (b := true) z z) z (WL.ren (v' := vB ((decide (a0.Re = 0)) && (decide (a0.Im = 0)))) 20 z (congrArg vB (andT o)) ?_)))))))
    exact nl (At.join () z (.cons z (.cons z .nil)))
   ·refine WL.gS z z z z (WL.gS z z z z (WL.gS z z z z (wY (Y.pick (b := false) z z) z (WL.ren (v' := vB ((decide (a0.Re = 0)) && (decide (a0.Im = 0)))) 20 z (congrArg vB (andF o)) ?_))))
    exact nl (At.join () z (.cons z (.cons z .nil)))
  ·rintro _ _ rfl
   refine (show WL _ _ _ _ _ [(5, vB d), (20, vB ((decide (a0.Re = 0)) && (decide (a0.Im = 0))))] _ from ?_)
   refine wY (ym z) z ?_
   refine WL.cut 2 (σ := Unit) (fun _ w' => c = w') (fun _ => [(23, vB (((decide (a0.Re = 0)) && (decide (a0.Im = 0))) && d))]) ?_ ?_
   ·refine WL.part 21 z (fun p => ?_) (fun p => ?_)
    ·refine ug z z (wY (ym z) z (wY (Y.pick (b := true) z z) z (WL.ren (v' := vB (((decide (a0.Re = 0)) && (decide (a0.Im = 0))) && d)) 23 z (congrArg vB (andT p)) ?_)))
     exact nl (At.join () z (.cons z .nil))
    ·refine WL.gS z z z z (wY (Y.pick (b := false) z z) z (WL.ren (v' := vB (((decide (a0.Re = 0)) && (decide (a0.Im = 0))) && d)) 23 z (congrArg vB (andF p)) ?_))
     exact nl (At.join () z (.cons z .nil))
   ·rintro _ _ rfl
    refine (show WL _ _ _ _ _ [(23, vB (((decide (a0.Re = 0)) && (decide (a0.Im = 0))) && d))] _ from ?_)
    obtain ⟨az, ad, h⟩ := lt1 h
    refine WL.yE (ya z) (congrArg vB ad.symm) z (nl (th (rt (At.inBlockR (At.thenR ?_)))))
    obtain rfl := some1 h
    have ae : Stp [] (Lg.O0 A) w m c := (tr_ (su_ j z) (su_ e z))
    exact At.res (.inl z) z (.tmp z .nil) ⟨z, (se_ ae z z)⟩
 ·refine WC.condF' z n (sq (rg (wY (Y.eql_i z z) z ?_)))
  obtain ⟨aA, af, h⟩ := lt1 h
  refine WL.yE (ya z) (congrArg vB af.symm) z (nl (th ?_))
  rcases cnd h with ⟨q, h⟩ | ⟨q, h⟩
  ·refine WC.condT' z q (sq (rg (wY (yf fo32_3 z) z ?_)))
   have T := l.st e z
   refine wY (yl ty3 z z (T.cell 3 _ z)) z (wY (Y.eql_i z z) z (wY (ym z) z ?_))
   refine WL.cut 4 (σ := Unit) (fun _ w' => c = w') (fun _ => [(5, vB d), (33, vB ((decide (a0.Int_ = 0)) && (decide (a0.Im = 0))))]) ?_ ?_
   ·refine WL.part 29 z (fun r => ?_) (fun r => ?_)
    ·refine ug z z (wY (yf fo32_5 z) z (ug z z (wY (yl ty25 z z (T.cell 5 _ z)) z (ug z z (wY (Y.eql_u (b := 0) z z) z (wY (Y.pick (b := true) z z) z (WL.ren (v' := vB ((decide (a0.Int_ = 0)) && (decide (a0.Im = 0)))) 33 z (congrArg vB (andT r)) ?_)))))))
     exact nl (At.join () z (.cons z (.cons z .nil)))
    ·refine WL.gS z z z z (WL.gS z z z z (WL.gS z z z z (wY (Y.pick (b := false) z z) z (WL.ren (v' := vB ((decide (a0.Int_ = 0)) && (decide (a0.Im = 0)))) 33 z (congrArg vB (andF r)) ?_))))
     exact nl (At.join () z (.cons z (.cons z .nil)))
   ·rintro _ _ rfl
    refine (show WL _ _ _ _ _ [(5, vB d), (33, vB ((decide (a0.Int_ = 0)) && (decide (a0.Im = 0))))] _ from ?_)
    refine wY (ym z) z ?_
    refine WL.cut 2 (σ := Unit) (fun _ w' => c = w') (fun _ => [(36, vB (((decide (a0.Int_ = 0)) && (decide (a0.Im = 0))) && d))]) ?_ ?_
    ·refine WL.part 34 z (fun t => ?_) (fun t => ?_)
     ·refine ug z z (wY (ym z) z (wY (Y.pick (b := true) z z) z (WL.ren (v' := vB (((decide (a0.Int_ = 0)) && (decide (a0.Im = 0))) && d)) 36 z (congrArg vB (andT t)) ?_)))
      exact nl (At.join () z (.cons z .nil))
     ·refine WL.gS z z z z (wY (Y.pick (b := false) z z) z (WL.ren (v' := vB (((decide (a0.Int_ = 0)) && (decide (a0.Im = 0))) && d)) 36 z (congrArg vB (andF t)) ?_))
      exact nl (At.join () z (.cons z .nil))
    ·rintro _ _ rfl
     refine (show WL _ _ _ _ _ [(36, vB (((decide (a0.Int_ = 0)) && (decide (a0.Im = 0))) && d))] _ from ?_)
     obtain ⟨aC, ah, h⟩ := lt1 h
     refine WL.yE (ya z) (congrArg vB ah.symm) z (nl (th (rt (At.inBlockR (At.thenR ?_)))))
     obtain rfl := some1 h
     have ai : Stp [] (Lg.O0 A) w m c := (tr_ (su_ j z) (su_ e z))
     exact At.res (.inl z) z (.tmp z .nil) ⟨z, (se_ ai z z)⟩
  ·refine WC.condF' z q (sq (rg (wY (Y.eql_i z z) z ?_)))
   obtain ⟨aD, aj, h⟩ := lt1 h
   refine WL.yE (ya z) (congrArg vB aj.symm) z (nl (th ?_))
   rcases cnd h with ⟨C, h⟩ | ⟨C, h⟩
   ·refine WC.condT' z C (sq (rg (wY (yf fo32_3 z) z ?_)))
    have D := l.st e z
    refine wY (yl ty3 z z (D.cell 3 _ z)) z (wY (Y.eql_i z z) z (wY (ym z) z ?_))
    refine WL.cut 4 (σ := Unit) (fun _ w' => c = w') (fun _ => [(2, pt U 0), (46, vB ((decide (a0.Int_ = 0)) && (decide (a0.Re = 0))))]) ?_ ?_
    ·refine WL.part 42 z (fun E => ?_) (fun E => ?_)
     ·refine ug z z (wY (yf fo32_4 z) z (ug z z (wY (yl ty25 z z (D.cell 4 _ z)) z (ug z z (wY (Y.eql_u (b := 0) z z) z (wY (Y.pick (b := true) z z) z (WL.ren (v' := vB ((decide (a0.Int_ = 0)) && (decide (a0.Re = 0)))) 46 z (congrArg vB (andT E)) ?_)))))))
      exact nl (At.join () z (.cons z (.cons z .nil)))
     ·refine WL.gS z z z z (WL.gS z z z z (WL.gS z z z z (wY (Y.pick (b := false) z z) z (WL.ren (v' := vB ((decide (a0.Int_ = 0)) && (decide (a0.Re = 0)))) 46 z (congrArg vB (andF E)) ?_))))
      exact nl (At.join () z (.cons z (.cons z .nil)))
    ·rintro _ _ rfl
     refine (show WL _ _ _ _ _ [(2, pt U 0), (46, vB ((decide (a0.Int_ = 0)) && (decide (a0.Re = 0))))] _ from ?_)
     refine wY (ym z) z ?_
     refine WL.cut 4 (σ := Unit) (fun _ w' => c = w') (fun _ => [(51, vB (((decide (a0.Int_ = 0)) && (decide (a0.Re = 0))) && (decide (a0.Im = 0))))]) ?_ ?_
     ·refine WL.part 47 z (fun F => ?_) (fun F => ?_)
      ·refine ug z z (wY (yf fo32_5 z) z (ug z z (wY (yl ty25 z z (D.cell 5 _ z)) z (ug z z (wY (Y.eql_u (b := 0) z z) z (wY (Y.pick (b := true) z z) z (WL.ren (v' := vB (((decide (a0.Int_ = 0)) && (decide (a0.Re = 0))) && (decide (a0.Im = 0)))) 51 z (congrArg vB (andT F)) ?_)))))))
       exact nl (At.join () z (.cons z .nil))
      ·refine WL.gS z z z z (WL.gS z z z z (WL.gS z z z z (wY (Y.pick (b := false) z z) z (WL.ren (v' := vB (((decide (a0.Int_ = 0)) && (decide (a0.Re = 0))) && (decide (a0.Im = 0)))) 51 z (congrArg vB (andF F)) ?_))))
       exact nl (At.join () z (.cons z .nil))
     ·rintro _ _ rfl
      refine (show WL _ _ _ _ _ [(51, vB (((decide (a0.Int_ = 0)) && (decide (a0.Re = 0))) && (decide (a0.Im = 0))))] _ from ?_)
      obtain ⟨aE, ak, h⟩ := lt1 h
      refine WL.yE (ya z) (congrArg vB ak.symm) z (nl (th (rt (At.inBlockR (At.thenR ?_)))))
      obtain rfl := some1 h
      have al : Stp [] (Lg.O0 A) w m c := (tr_ (su_ j z) (su_ e z))
      exact At.res (.inl z) z (.tmp z .nil) ⟨z, (se_ al z z)⟩
   ·refine WC.condF' z C (sq (rg (wY (Y.eql_i z z) z ?_)))
    obtain ⟨aF, am, h⟩ := lt1 h
    refine WL.yE (ya z) (congrArg vB am.symm) z (nl (th ?_))
    rcases cnd h with ⟨G, h⟩ | ⟨G, h⟩
    ·refine WC.condT' z G (sq (rg (wY (yf fo32_3 z) z ?_)))
     have an := l.st e z
     refine wY (yl ty3 z z (an.cell 3 _ z)) z (wY (Y.eql_i z z) z (wY (ym z) z ?_))
     refine WL.cut 2 (σ := Unit) (fun _ w' => c = w') (fun _ => [(59, vB ((decide (a0.Int_ = 0)) && d))]) ?_ ?_
     ·refine WL.part 57 z (fun H => ?_) (fun H => ?_)
      ·refine ug z z (wY (ym z) z (wY (Y.pick (b := true) z z) z (WL.ren (v' := vB ((decide (a0.Int_ = 0)) && d)) 59 z (congrArg vB (andT H)) ?_)))
       exact nl (At.join () z (.cons z .nil))
      ·refine WL.gS z z z z (wY (Y.pick (b := false) z z) z (WL.ren (v' := vB ((decide (a0.Int_ = 0)) && d)) 59 z (congrArg vB (andF H)) ?_))
       exact nl (At.join () z (.cons z .nil))
     ·rintro _ _ rfl
      refine (show WL _ _ _ _ _ [(59, vB ((decide (a0.Int_ = 0)) && d))] _ from ?_)
      obtain ⟨aG, ao, h⟩ := lt1 h
      refine WL.yE (ya z) (congrArg vB ao.symm) z (nl (th (rt (At.inBlockR (At.thenR ?_)))))
      obtain rfl := some1 h
      have ap : Stp [] (Lg.O0 A) w m c := (tr_ (su_ j z) (su_ e z))
      exact At.res (.inl z) z (.tmp z .nil) ⟨z, (se_ ap z z)⟩
    ·refine WC.condF' z G (sk (At.inBlock (th (sq (rg (wY (ya z) z (nl (th (rt ?_)))))))))
     obtain rfl := some1 h
     have aq : Stp [] (Lg.O0 A) w m c := (tr_ (su_ j z) (su_ e z))
     exact At.res (.inl z) z (.tmp z .nil) ⟨z, (se_ aq z z)⟩
theorem c_ref05_Finite {a0 : UInt64} {w : World} {r0 : Bool} (h : ref05_Finite a0 = some r0) : Rets Try.prog 80 [vu a0] w (fun v w' => v = vB r0 ∧ Ext w w') := by
 unfold ref05_Finite at h
 refine Rets.enter Try.func80 z z ?_
 refine (show WC _ _ _ _ [(0, vu a0)] _ from ?_)
 refine sq (rg (wY (ya z) z (nl (th (sq (rg (wY (ym z) z (wY (Y.quo_u (b := 4503599627370496) (by decide) z z) z (wY (Y.rem_u (b := 2048) (by decide) z z) z ?_)))))))))
 refine wY (Y.neq_u (b := 2047) z z) z ?_
 obtain ⟨e, c, h⟩ := lt1 h
 refine WL.yE (ya z) (congrArg vB c.symm) z (nl (th (rt ?_)))
 obtain rfl := some1 h
 have d : Stp [] (Lg.O0 (fun _ => False)) w (Lg.O0 (fun _ => False)) w := (sr_ _ _ _)
 exact At.res (.inl z) z (.tmp z .nil) ⟨z, (se_ d z z)⟩
theorem c_ref08_sum {A : Nat → Prop} {a0 : UInt64} {a1 : List UInt64} {v1 : Value} {w : World} (hs1 : Sl Rep.u w A v1 a1) {r0 : UInt64} {r1 : Bool} (h : ref08_sum a0 a1 = some (r0, r1)) : Rets Try.prog 107 [vu a0, v1] w (fun v w' => v = tp [vu r0, vB r1] ∧ Ext w w') := by
 unfold ref08_sum at h
 refine Rets.enter Try.func107 z z ?_
 have c : Sl Rep.u w (imm (Lg.O0 A)) v1 a1 := (Sl.start hs1)
 refine (show WC _ _ _ _ [(0, vu a0), (1, v1)] _ from ?_)
 refine sq (rg (wY (ya (v := vu 0) z) z (wY (ya z) z (nl (th (sq (sq (rg (wY (ya z) z ?_)))))))))
 refine nl (th (WC.block ?_))
 obtain ⟨t, h, n⟩ := flow1 h
 obtain ⟨C, h⟩ := loop_some h
 refine WC.joinB 0 (σ := UInt64) (fun x w' => t = .go x ∧ w = w') (fun x => [(0, vu x)]) ?_ ?_
 ·refine WC.loop (σ := (UInt64 × Int)) (fun x k w' => loopN k (ref08_sum_lp1 a1) (x.1, x.2) = some t ∧ w = w') (fun x => [(0, vu x.1), (1, v1), (6, vi x.2)]) (a0, 0) C (.cons z (.cons z (.cons z .nil))) ⟨h, z⟩ ?_
  rintro ⟨D, U⟩ C _ ⟨h, rfl⟩
  obtain ⟨V, aj, rfl, h, d⟩ := rnd1 h
  unfold ref08_sum_lp1 at h
  try dsimp only at h
  refine (show WC _ _ _ _ [(0, vu D), (1, v1), (6, vi U)] _ from ?_)
  refine sq (sq (rg (wY (ym z) z (wY (ym z) z (wY (Y.len ty26 z c) z (wY (Y.lss_i z z) z (nl (th ?_))))))))
  rcases cnd h with ⟨e, h⟩ | ⟨e, h⟩
  ·refine WC.condT' z e (sk (th (sq (WC.block (sq (sq (rg (wY (ym z) z (wY (ym z) z ?_)))))))))
   obtain ⟨W, E, h⟩ := bnd h
   obtain ⟨ak, ac, ad, ah, F, G, H, j, o, I⟩ := Sl.at2 c E
   obtain rfl := o
   replace j : CellsAt _ _ _ [vu W] := j
   have p := CAt.imm j I
   refine wY (Y.indexAddr ty26 ty25 z F z G H) z (wY (yl ty25 z z p.at_) z (wY (ym z) z (wY (Y.sub_u (a := 18446744073709551615) z z) z (wY (Y.gtr_u z z) z (nl (th ?_))))))
   rcases cnd h with ⟨l, h⟩ | ⟨l, h⟩
   ·refine WC.condT' z l (sq (rg (wY (ya (v := vu 0) z) z (wY (ya z) z (nl (th (rt (At.thenR (At.inBlockR ?_)))))))))
    refine At.thenR (At.loopR ?_)
    have h := outr1 h d n
    refine At.joinBR (At.inBlockR (At.thenR ?_))
    obtain ⟨rfl, rfl⟩ := tup2 h
    have J : Stp [] (Lg.O0 A) w (Lg.O0 A) w := (sr_ _ _ _)
    exact At.res (.inl z) z (.tmp z (.tmp z .nil)) ⟨z, (se_ J z z)⟩
   ·refine WC.condF' z l (sk (th (rg (wY (ym z) z (wY (ym z) z (wY (ym z) z ?_))))))
    obtain ⟨X, K, h⟩ := bnd h
    obtain ⟨al, ae, af, ai, L, M, P, m, q, Q⟩ := Sl.at2 c K
    obtain rfl := q
    replace m : CellsAt _ _ _ [vu X] := m
    have r := CAt.imm m Q
    refine wY (Y.indexAddr ty26 ty25 z L z M P) z (wY (yl ty25 z z r.at_) z (wY (Y.add_u z z) z ?_))
    obtain ⟨Z, R, h⟩ := lt1 h
    refine WL.yE (ya z) (congrArg vu R.symm) z (nl (At.inBlock (th (rg (wY (ym z) z (wY (Y.add_i z z) z ?_))))))
    obtain ⟨aa, S, h⟩ := lt1 h
    refine WL.yE (ya z) (congrArg vi S.symm) z (nl ?_)
    exact At.round (Z, aa) V (Nat.lt_succ_self _) ⟨next1 h d, z⟩ (.cons z (.cons z (.cons z .nil)))
  ·refine WC.condF' z e (WC.exit (At.thenX (At.loopX ?_)))
   exact At.hitB (σ := UInt64) D ⟨brk1 h d, z⟩ (.cons z .nil)
 ·rintro ab _ ⟨rfl, rfl⟩
  replace h := flowK_go n
  try dsimp only at h
  refine (show At _ _ _ [(0, vu ab)] _ from ?_)
  refine At.inBlockHit (th (sq (rg (wY (ym z) z (wY (ya z) z (wY (ya z) z (nl (th (rt ?_)))))))))
  obtain ⟨rfl, rfl⟩ := tup2 h
  have T : Stp [] (Lg.O0 A) w (Lg.O0 A) w := (sr_ _ _ _)
  exact At.res (.inl z) z (.tmp z (.tmp z .nil)) ⟨z, (se_ T z z)⟩
theorem c_ref08_Total {A : Nat → Prop} {v0_3 : Value} {v0_5 : Value} {a0 : api_Hist} {w : World} (hs0_3 : Sl Rep.u w A v0_3 a0.Pos.Counts) (hs0_5 : Sl Rep.u w A v0_5 a0.Neg.Counts) {r0 : UInt64} {r1 : Bool} (h : ref08_Total a0 = some (r0, r1)) : Rets Try.prog 85 [ag [vi a0.Scale, vu a0.Zero, vi a0.Pos.Offset, v0_3, vi a0.Neg.Offset, v0_5]] w (fun v w' => v = tp [vu r0, vB r1] ∧ Ext w w') := by
 unfold ref08_Total at h
 refine Rets.enter Try.func85 z z ?_
 have l : Sl Rep.u w (imm (Lg.O0 A)) v0_3 a0.Pos.Counts := (Sl.start hs0_3)
 have m : Sl Rep.u w (imm (Lg.O0 A)) v0_5 a0.Neg.Counts := (Sl.start hs0_5)
 refine (show WC _ _ _ _ [(0, ag [vi a0.Scale, vu a0.Zero, vi a0.Pos.Offset, v0_3, vi a0.Neg.Offset, v0_5])] _ from ?_)
 refine sq (rg ?_)
 have E := h
 obtain ⟨o, p, q, rfl⟩ := l.shape
 have h := E
 have F := h
 obtain ⟨r, t, C, rfl⟩ := m.shape
 have h := F
 refine WL.box (O := (Lg.O0 A)) 11 [vi a0.Scale, vu a0.Zero, vi a0.Pos.Offset, (Value.slice o p q), vi a0.Neg.Offset, (Value.slice r t C)] z z z ?_
 intro af U ac c e
 refine wY (ya (v := vu 0) z) z (wY (ya z) z (nl (th (sq (rg (wY (yf fo30_1 z) z (wY (yl ty25 z z (e.cell 1 _ z)) z (wY (yf fo30_2 z) z (wY (yf fo28_1 z) z ?_)))))))))
 refine wY (yl ty26 z z (e.cell 3 _ z)) z ?_
 have G := l.i c z z
 obtain ⟨⟨V, ah⟩, H, h⟩ := bnd h
 refine WL.call (vals := [vu a0.Zero, (Value.slice o p q)]) kok107 z z (c_ref08_sum (A := fun _ => True) (Sl.all G) H) ?_
 rintro ad I ⟨rfl, J⟩
 obtain ⟨D, W, X, d⟩ := adoptE U (fun k => 1) J
 refine wY (ym z) z (wY (yx z z) z (wY (yx z z) z (wY (ya z) z (wY (ya z) z (nl (th (sq (sq (rg ?_)))))))))
 refine wY (ym z) z (wY (Y.not z) z (nl (th ?_)))
 rcases cnd h with ⟨j, h⟩ | ⟨j, h⟩
 ·refine WC.condT' z j (sq (rg (wY (ya (v := vu 0) z) z (wY (ya z) z (nl (th (rt (At.thenR ?_))))))))
  obtain ⟨rfl, rfl⟩ := tup2 h
  have K : Stp [] (Lg.O0 A) w D I := (tr_ (su_ c z) (su_ d z))
  exact At.res (.inl z) z (.tmp z (.tmp z .nil)) ⟨z, (se_ K z z)⟩
 ·refine WC.condF' z j (sk (th (sq (rg (wY (ym z) z (wY (yf fo30_3 z) z (wY (yf fo28_1 z) z ?_)))))))
  have L := e.st d z
  refine wY (yl ty26 z z (L.cell 5 _ z)) z ?_
  have M := m.i c z z
  have P := M.i d z z
  obtain ⟨⟨ai, aj⟩, Q, h⟩ := bnd h
  refine WL.call (vals := [vu V, (Value.slice r t C)]) kok107 z z (c_ref08_sum (A := fun _ => True) (Sl.all P) Q) ?_
  rintro ae R ⟨rfl, S⟩
  obtain ⟨Z, aa, ab, n⟩ := adoptE D (fun k => 1) S
  refine wY (yx z z) z (wY (yx z z) z (wY (ya z) z (wY (ya z) z (nl (th (rt ?_))))))
  obtain ⟨rfl, rfl⟩ := tup2 h
  have T : Stp [] (Lg.O0 A) w Z R := (tr_ (su_ c z) (tr_ (su_ d z) (su_ n z)))
  exact At.res (.inl z) z (.tmp z (.tmp z .nil)) ⟨z, (se_ T z z)⟩
theorem c_ref08_side {A : Nat → Prop} {v0_1 : Value} {a0 : api_Side} {w : World} (hs0_1 : Sl Rep.u w A v0_1 a0.Counts) {r0 : Int} (h : ref08_side a0 = some r0) : Rets Try.prog 105 [ag [vi a0.Offset, v0_1]] w (fun v w' => v = vi r0 ∧ Ext w w') := by
 unfold ref08_side at h
 refine Rets.enter Try.func105 z z ?_
 have H : Sl Rep.u w (imm (Lg.O0 A)) v0_1 a0.Counts := (Sl.start hs0_1)
 refine (show WC _ _ _ _ [(0, ag [vi a0.Offset, v0_1])] _ from ?_)
 refine sq (rg ?_)
 have Q := h
 obtain ⟨ak, al, am, rfl⟩ := H.shape
 have h := Q
 refine WL.box (O := (Lg.O0 A)) 11 [vi a0.Offset, (Value.slice ak al am)] z z z ?_
 intro G l c d j
 refine wY (ya z) z (nl (th (sq (rg (wY (yf fo28_1 z) z (wY (yl ty26 z z (j.cell 1 _ z)) z ?_))))))
 have m := H.i d z z
 refine wY (Y.len ty26 z m) z ?_
 obtain ⟨e, I, h⟩ := lt1 h
 refine WL.yE (ya z) (congrArg vi I.symm) z (nl (th (sq (sq (rg (wY (ym z) z (wY (Y.gtr_i z z) z (nl (th ?_)))))))))
 rcases cnd h with ⟨n, h⟩ | ⟨n, h⟩
 ·refine WC.condT' z n (sq (rg (wY (ya z) z (nl (th (rt (At.thenR ?_)))))))
  obtain rfl := some1 h
  have R : Stp [] (Lg.O0 A) w l c := (su_ d z)
  exact At.res (.inl z) z (.tmp z .nil) ⟨z, (se_ R z z)⟩
 ·refine WC.condF' z n (sk (th (sq (sq (rg (wY (ym z) z (wY (Y.eql_i z z) z (nl (th ?_)))))))))
  rcases cnd h with ⟨o, h⟩ | ⟨o, h⟩
  ·refine WC.condT' z o (sq (sq (rg (wY (yf fo28_0 z) z (wY (yl ty3 z z (j.cell 0 _ z)) z (wY (Y.neq_i z z) z (nl (th ?_))))))))
   rcases cnd h with ⟨p, h⟩ | ⟨p, h⟩
   ·refine WC.condT' z p (sq (rg (wY (ya z) z (nl (th (rt (At.thenR (At.thenR ?_))))))))
    obtain rfl := some1 h
    have S : Stp [] (Lg.O0 A) w l c := (su_ d z)
    exact At.res (.inl z) z (.tmp z .nil) ⟨z, (se_ S z z)⟩
   ·refine WC.condF' z p (sk (th (sq (rg (wY (ya z) z (nl (th (rt (At.thenR ?_)))))))))
    obtain rfl := some1 h
    have T : Stp [] (Lg.O0 A) w l c := (su_ d z)
    exact At.res (.inl z) z (.tmp z .nil) ⟨z, (se_ T z z)⟩
  ·refine WC.condF' z o (sk (th (sq (sq (rg (wY (yf fo28_1 z) z (wY (yl ty26 z z (j.cell 1 _ z)) z ?_)))))))
   obtain ⟨an, U, h⟩ := bnd h
   obtain ⟨ay, aq, ar, aw, V, W, X, q, J, Z⟩ := Sl.at2 m U
   obtain rfl := J
   replace q : CellsAt _ _ _ [vu an] := q
   have K := CAt.imm q Z
   refine wY (Y.indexAddr ty26 ty25 z V z W X) z (wY (yl ty25 z z K.at_) z (wY (Y.eql_u (b := 0) z z) z (wY (ym z) z ?_)))
   obtain ⟨ao, h, aa⟩ := bnd h
   refine WL.cut 8 (σ := Bool) (fun x w' => x = ao ∧ c = w') (fun x => [(1, pt G 0), (3, vi e), (27, vB x)]) ?_ ?_
   ·rcases cnd h with ⟨r, h⟩ | ⟨r, h⟩
    ·refine WL.ren 19 z (congrArg vB r) (WL.gS z z z z (WL.gS z z z z (WL.gS z z z z (WL.gS z z z z (WL.gS z z z z (WL.gS z z z z (WL.gS z z z z (wY (Y.pick (b := true) z z) z ?_))))))))
     exact nl (At.join (σ := Bool) true ⟨some1 h, z⟩ (.cons z (.cons z (.cons z .nil))))
    ·refine WL.ren 19 z (congrArg vB r) (ug z z (wY (yf fo28_1 z) z (ug z z (wY (yl ty26 z z (j.cell 1 _ z)) z (ug z z (wY (ym z) z (ug z z (wY (Y.sub_i z z) z (ug z z ?_)))))))))
     obtain ⟨P, ab, h⟩ := bnd h
     obtain ⟨az, au, av, ax, ac, ad, ae, t, L, af⟩ := Sl.at2 m ab
     obtain rfl := L
     replace t : CellsAt _ _ _ [vu P] := t
     have M := CAt.imm t af
     refine wY (Y.indexAddr ty26 ty25 z ac z ad ae) z (ug z z (wY (yl ty25 z z M.at_) z (ug z z (wY (Y.eql_u (b := 0) z z) z (wY (Y.pick (b := false) z z) z ?_)))))
     exact nl (At.join (σ := Bool) (decide (P = 0)) ⟨some1 h, z⟩ (.cons z (.cons z (.cons z .nil))))
   ·rintro ap _ ⟨rfl, rfl⟩
    replace h := aa
    try dsimp only at h
    refine (show WL _ _ _ _ _ [(1, pt G 0), (3, vi e), (27, vB ap)] _ from ?_)
    refine nl (th ?_)
    rcases cnd h with ⟨C, h⟩ | ⟨C, h⟩
    ·refine WC.condT' z C (sq (rg (wY (ya z) z (nl (th (rt (At.thenR ?_)))))))
     obtain rfl := some1 h
     have ah : Stp [] (Lg.O0 A) w l c := (su_ d z)
     exact At.res (.inl z) z (.tmp z .nil) ⟨z, (se_ ah z z)⟩
    ·refine WC.condF' z C (sk (th (sq (sq (rg (wY (yf fo28_0 z) z (wY (yl ty3 z z (j.cell 0 _ z)) z (wY (Y.lss_i z z) z (wY (ym z) z ?_)))))))))
     refine WL.cut 4 (σ := Unit) (fun _ w' => c = w') (fun _ => [(1, pt G 0), (3, vi e), (35, vB ((decide (a0.Offset < (-1073741824))) || (decide (1073741824 < a0.Offset))))]) ?_ ?_
     ·refine WL.part 31 z (fun D => ?_) (fun D => ?_)
      ·refine WL.gS z z z z (WL.gS z z z z (WL.gS z z z z (wY (Y.pick (b := true) z z) z (WL.ren (v' := vB ((decide (a0.Offset < (-1073741824))) || (decide (1073741824 < a0.Offset)))) 35 z (congrArg vB (orT D)) ?_))))
       exact nl (At.join () z (.cons z (.cons z (.cons z .nil))))
      ·refine ug z z (wY (yf fo28_0 z) z (ug z z (wY (yl ty3 z z (j.cell 0 _ z)) z (ug z z (wY (Y.gtr_i z z) z (wY (Y.pick (b := false) z z) z (WL.ren (v' := vB ((decide (a0.Offset < (-1073741824))) || (decide (1073741824 < a0.Offset)))) 35 z (congrArg vB (orF D)) ?_)))))))
       exact nl (At.join () z (.cons z (.cons z (.cons z .nil))))
     ·rintro _ _ rfl
      refine (show WL _ _ _ _ _ [(1, pt G 0), (3, vi e), (35, vB ((decide (a0.Offset < (-1073741824))) || (decide (1073741824 < a0.Offset))))] _ from ?_)
      refine wY (ym z) z ?_
      refine WL.cut 7 (σ := Unit) (fun _ w' => c = w') (fun _ => [(43, vB (((decide (a0.Offset < (-1073741824))) || (decide (1073741824 < a0.Offset))) || (decide (1073741824 < w64 ((w64 (a0.Offset + e)) - 1)))))]) ?_ ?_
      ·refine WL.part 36 z (fun E => ?_) (fun E => ?_)
       ·refine WL.gS z z z z (WL.gS z z z z (WL.gS z z z z (WL.gS z z z z (WL.gS z z z z (WL.gS z z z z (wY (Y.pick (b := true) z z) z (WL.ren (v' := vB (((decide (a0.Offset < (-1073741824))) || (decide (1073741824 < a0.Offset))) || (decide (1073741824 < w64 ((w64 (a0.Offset + e)) - 1))))) 43 z (congrArg vB (orT E)) ?_)))))))
        exact nl (At.join () z (.cons z .nil))
       ·refine ug z z (wY (yf fo28_0 z) z (ug z z (wY (yl ty3 z z (j.cell 0 _ z)) z (ug z z (wY (ym z) z (ug z z (wY (Y.add_i z z) z (ug z z (wY (Y.sub_i z z) z ?_)))))))))
        refine ug z z (wY (Y.gtr_i z z) z (wY (Y.pick (b := false) z z) z (WL.ren (v' := vB (((decide (a0.Offset < (-1073741824))) || (decide (1073741824 < a0.Offset))) || (decide (1073741824 < w64 ((w64 (a0.Offset + e)) - 1))))) 43 z (congrArg vB (orF E)) ?_)))
        exact nl (At.join () z (.cons z .nil))
      ·rintro _ _ rfl
       refine (show WL _ _ _ _ _ [(43, vB (((decide (a0.Offset < (-1073741824))) || (decide (1073741824 < a0.Offset))) || (decide (1073741824 < w64 ((w64 (a0.Offset + e)) - 1)))))] _ from ?_)
       refine nl (th ?_)
       rcases cnd h with ⟨F, h⟩ | ⟨F, h⟩
       ·refine WC.condT' z F (sq (rg (wY (ya z) z (nl (th (rt (At.thenR ?_)))))))
        obtain rfl := some1 h
        have ai : Stp [] (Lg.O0 A) w l c := (su_ d z)
        exact At.res (.inl z) z (.tmp z .nil) ⟨z, (se_ ai z z)⟩
       ·refine WC.condF' z F (sk (th (sq (rg (wY (ya z) z (nl (th (rt ?_))))))))
        obtain rfl := some1 h
        have aj : Stp [] (Lg.O0 A) w l c := (su_ d z)
        exact At.res (.inl z) z (.tmp z .nil) ⟨z, (se_ aj z z)⟩
theorem c_ref08_Check {A : Nat → Prop} {v0_3 : Value} {v0_5 : Value} {a0 : api_Hist} {w : World} (hs0_3 : Sl Rep.u w A v0_3 a0.Pos.Counts) (hs0_5 : Sl Rep.u w A v0_5 a0.Neg.Counts) {r0 : Int} (h : ref08_Check a0 = some r0) : Rets Try.prog 82 [ag [vi a0.Scale, vu a0.Zero, vi a0.Pos.Offset, v0_3, vi a0.Neg.Offset, v0_5]] w (fun v w' => v = vi r0 ∧ Ext w w') := by
 unfold ref08_Check at h
 refine Rets.enter Try.func82 z z ?_
 have G : Sl Rep.u w (imm (Lg.O0 A)) v0_3 a0.Pos.Counts := (Sl.start hs0_3)
 have H : Sl Rep.u w (imm (Lg.O0 A)) v0_5 a0.Neg.Counts := (Sl.start hs0_5)
 refine (show WC _ _ _ _ [(0, ag [vi a0.Scale, vu a0.Zero, vi a0.Pos.Offset, v0_3, vi a0.Neg.Offset, v0_5])] _ from ?_)
 refine sq (rg ?_)
 have U := h
 obtain ⟨l, m, n, rfl⟩ := G.shape
 have h := U
 have V := h
 obtain ⟨o, p, q, rfl⟩ := H.shape
 have h := V
 refine WL.box (O := (Lg.O0 A)) 11 [vi a0.Scale, vu a0.Zero, vi a0.Pos.Offset, (Value.slice l m n), vi a0.Neg.Offset, (Value.slice o p q)] z z z ?_
 intro P Q I c j
 refine wY (ya z) z (nl (th (sq (sq (rg (wY (yf fo30_0 z) z (wY (yl ty3 z z (j.cell 0 _ z)) z (wY (Y.lss_i z z) z (wY (ym z) z ?_)))))))))
 refine WL.cut 4 (σ := Unit) (fun _ w' => I = w') (fun _ => [(1, pt P 0), (14, vB ((decide (a0.Scale < (-10))) || (decide (20 < a0.Scale))))]) ?_ ?_
 ·refine WL.part 10 z (fun r => ?_) (fun r => ?_)
  ·refine WL.gS z z z z (WL.gS z z z z (WL.gS z z z z (wY (Y.pick (b := true) z z) z (WL.ren (v' := vB ((decide (a0.Scale < (-10))) || (decide (20 < a0.Scale)))) 14 z (congrArg vB (orT r)) ?_))))
   exact nl (At.join () z (.cons z (.cons z .nil)))
  ·refine ug z z (wY (yf fo30_0 z) z (ug z z (wY (yl ty3 z z (j.cell 0 _ z)) z (ug z z (wY (Y.gtr_i z z) z (wY (Y.pick (b := false) z z) z (WL.ren (v' := vB ((decide (a0.Scale < (-10))) || (decide (20 < a0.Scale)))) 14 z (congrArg vB (orF r)) ?_)))))))
   exact nl (At.join () z (.cons z (.cons z .nil)))
 ·rintro _ _ rfl
  refine (show WL _ _ _ _ _ [(1, pt P 0), (14, vB ((decide (a0.Scale < (-10))) || (decide (20 < a0.Scale))))] _ from ?_)
  refine nl (th ?_)
  rcases cnd h with ⟨t, h⟩ | ⟨t, h⟩
  ·refine WC.condT' z t (sq (rg (wY (ya z) z (nl (th (rt (At.thenR ?_)))))))
   obtain rfl := some1 h
   have W : Stp [] (Lg.O0 A) w Q I := (su_ c z)
   exact At.res (.inl z) z (.tmp z .nil) ⟨z, (se_ W z z)⟩
  ·refine WC.condF' z t (sk (th (sq (sq (rg (wY (yf fo30_2 z) z (wY (yL ty28 z z (j.cells 2 [vi a0.Pos.Offset, (Value.slice l m n)] z) z) z ?_)))))))
   have J := G.i c z z
   obtain ⟨aC, X, h⟩ := bnd h
   refine WL.call (vals := [ag [vi a0.Pos.Offset, (Value.slice l m n)]]) kok105 z z (c_ref08_side (A := fun _ => True) (a0 := a0.Pos) (Sl.all J) X) ?_
   rintro ay Z ⟨rfl, aa⟩
   obtain ⟨R, aq, ar, d⟩ := adoptE Q (fun k => 1) aa
   refine wY (ya z) z (nl (th (sq (rg (wY (ym z) z (wY (Y.neq_i z z) z (nl (th ?_))))))))
   rcases cnd h with ⟨C, h⟩ | ⟨C, h⟩
   ·refine WC.condT' z C (sq (rg (wY (ym z) z (wY (ya z) z (nl (th (rt (At.thenR ?_))))))))
    obtain rfl := some1 h
    have ab : Stp [] (Lg.O0 A) w R Z := (tr_ (su_ c z) (su_ d z))
    exact At.res (.inl z) z (.tmp z .nil) ⟨z, (se_ ab z z)⟩
   ·refine WC.condF' z C (sk (th (sq (sq (rg (wY (yf fo30_3 z) z ?_))))))
    have K := j.st d z
    refine wY (yL ty28 z z (K.cells 4 [vi a0.Neg.Offset, (Value.slice o p q)] z) z) z ?_
    have ac := H.i c z z
    have L := ac.i d z z
    obtain ⟨aD, ad, h⟩ := bnd h
    refine WL.call (vals := [ag [vi a0.Neg.Offset, (Value.slice o p q)]]) kok105 z z (c_ref08_side (A := fun _ => True) (a0 := a0.Neg) (Sl.all L) ad) ?_
    rintro az ae ⟨rfl, af⟩
    obtain ⟨S, au, av, e⟩ := adoptE R (fun k => 1) af
    refine wY (ya z) z (nl (th (sq (rg (wY (ym z) z (wY (Y.neq_i z z) z (nl (th ?_))))))))
    rcases cnd h with ⟨D, h⟩ | ⟨D, h⟩
    ·refine WC.condT' z D (sq (rg (wY (ym z) z (wY (ya z) z (nl (th (rt (At.thenR ?_))))))))
     obtain rfl := some1 h
     have ah : Stp [] (Lg.O0 A) w S ae := (tr_ (su_ c z) (tr_ (su_ d z) (su_ e z)))
     exact At.res (.inl z) z (.tmp z .nil) ⟨z, (se_ ah z z)⟩
    ·refine WC.condF' z D (sk (th (sq (sq (rg ?_)))))
     have ai := K.st e z
     refine wY (yL ty30 z z (ai.cells 0 [vi a0.Scale, vu a0.Zero, vi a0.Pos.Offset, (Value.slice l m n), vi a0.Neg.Offset, (Value.slice o p q)] z) z) z ?_
     have aj := J.i d z z
     have ak := aj.i e z z
     have al := L.i e z z
     obtain ⟨⟨aE, aF⟩, am, h⟩ := bnd h
     refine WL.call (vals := [ag [vi a0.Scale, vu a0.Zero, vi a0.Pos.Offset, (Value.slice l m n), vi a0.Neg.Offset, (Value.slice o p q)]]) kok85 z z (c_ref08_Total (A := fun _ => True) (a0 := a0) (Sl.all ak) (Sl.all al) am) ?_
     rintro aA M ⟨rfl, an⟩
     obtain ⟨T, aw, ax, F⟩ := adoptE S (fun k => 1) an
     refine wY (ym z) z (wY (yx z z) z (wY (yx z z) z (wY (ya z) z (wY (ya z) z (nl (th (sq (rg (wY (ym z) z ?_)))))))))
     refine wY (Y.not z) z (nl (th ?_))
     rcases cnd h with ⟨E, h⟩ | ⟨E, h⟩
     ·refine WC.condT' z E (sq (rg (wY (ya z) z (nl (th (rt (At.thenR ?_)))))))
      obtain rfl := some1 h
      have ao : Stp [] (Lg.O0 A) w T M := (tr_ (su_ c z) (tr_ (su_ d z) (tr_ (su_ e z) (su_ F z))))
      exact At.res (.inl z) z (.tmp z .nil) ⟨z, (se_ ao z z)⟩
     ·refine WC.condF' z E (sk (th (sq (rg (wY (ya z) z (nl (th (rt ?_))))))))
      obtain rfl := some1 h
      have ap : Stp [] (Lg.O0 A) w T M := (tr_ (su_ c z) (tr_ (su_ d z) (tr_ (su_ e z) (su_ F z))))
      exact At.res (.inl z) z (.tmp z .nil) ⟨z, (se_ ap z z)⟩
theorem c_ref11_Name {a0 : List UInt8} {w : World} {r0 : Bool} (h : ref11_Name a0 = some r0) : Rets Try.prog 112 [vs a0] w (fun v w' => v = vB r0 ∧ Ext w w') := by
 unfold ref11_Name at h
 refine Rets.enter Try.func112 z z ?_
 refine (show WC _ _ _ _ [(0, vs a0)] _ from ?_)
 refine sq (rg (wY (ya z) z (nl (th (sq (sq (rg (wY (ym z) z (wY (Y.len_s ty9 z) z ?_)))))))))
 refine wY (Y.lss_i z z) z (wY (ym z) z ?_)
 refine WL.cut 4 (σ := Unit) (fun _ w' => w = w') (fun _ => [(0, vs a0), (14, vB ((decide ((a0.length : Int) < 1)) || (decide (32 < (a0.length : Int)))))]) ?_ ?_
 ·refine WL.part 10 z (fun n => ?_) (fun n => ?_)
  ·refine WL.gS z z z z (WL.gS z z z z (WL.gS z z z z (wY (Y.pick (b := true) z z) z (WL.ren (v' := vB ((decide ((a0.length : Int) < 1)) || (decide (32 < (a0.length : Int))))) 14 z (congrArg vB (orT n)) ?_))))
   exact nl (At.join () z (.cons z (.cons z .nil)))
  ·refine ug z z (wY (ym z) z (ug z z (wY (Y.len_s ty9 z) z (ug z z (wY (Y.gtr_i z z) z (wY (Y.pick (b := false) z z) z (WL.ren (v' := vB ((decide ((a0.length : Int) < 1)) || (decide (32 < (a0.length : Int))))) 14 z (congrArg vB (orF n)) ?_)))))))
   exact nl (At.join () z (.cons z (.cons z .nil)))
 ·rintro _ _ rfl
  refine (show WL _ _ _ _ _ [(0, vs a0), (14, vB ((decide ((a0.length : Int) < 1)) || (decide (32 < (a0.length : Int)))))] _ from ?_)
  refine nl (th ?_)
  rcases cnd h with ⟨o, h⟩ | ⟨o, h⟩
  ·refine WC.condT' z o (sq (rg (wY (ya z) z (nl (th (rt (At.thenR ?_)))))))
   obtain rfl := some1 h
   have K : Stp [] (Lg.O0 (fun _ => False)) w (Lg.O0 (fun _ => False)) w := (sr_ _ _ _)
   exact At.res (.inl z) z (.tmp z .nil) ⟨z, (se_ K z z)⟩
  ·refine WC.condF' z o (sk (th (sq (sq (rg (wY (ya z) z (nl (th (WC.block ?_)))))))))
   obtain ⟨I, h, H⟩ := flow1 h
   obtain ⟨J, h⟩ := loop_some h
   refine WC.joinB 0 (σ := Unit) (fun x w' => I = .go () ∧ w = w') (fun x => []) ?_ ?_
   ·refine WC.loop (σ := Int) (fun x k w' => loopN k (ref11_Name_lp1 a0) x = some I ∧ w = w') (fun x => [(0, vs a0), (3, vi x)]) 0 J (.cons z (.cons z .nil)) ⟨h, z⟩ ?_
    rintro e J _ ⟨h, rfl⟩
    obtain ⟨R, T, rfl, h, p⟩ := rnd1 h
    unfold ref11_Name_lp1 at h
    try dsimp only at h
    refine (show WC _ _ _ _ [(0, vs a0), (3, vi e)] _ from ?_)
    refine sq (sq (rg (wY (ym z) z (wY (ym z) z (wY (Y.len_s ty9 z) z (wY (Y.lss_i z z) z (nl (th ?_))))))))
    rcases cnd h with ⟨q, h⟩ | ⟨q, h⟩
    ·refine WC.condT' z q (sk (th (sq (WC.block (sq (rg (wY (ym z) z (wY (ym z) z ?_))))))))
     obtain ⟨c, L, h⟩ := bnd h
     refine wY (Y.index_s ty9 z z L) z (wY (ya z) z (nl (th (sq (rg (wY (ym z) z (wY (Y.geq_b (b := 97) z z) z (wY (ym z) z ?_))))))))
     refine WL.cut 3 (σ := Unit) (fun _ w' => w = w') (fun _ => [(0, vs a0), (3, vi e), (4, vb c), (29, vB ((decide (97 ≤ c)) && (decide (c ≤ 122))))]) ?_ ?_
     ·refine WL.part 26 z (fun r => ?_) (fun r => ?_)
      ·refine ug z z (wY (ym z) z (ug z z (wY (Y.leq_b (b := 122) z z) z (wY (Y.pick (b := true) z z) z (WL.ren (v' := vB ((decide (97 ≤ c)) && (decide (c ≤ 122)))) 29 z (congrArg vB (andT r)) ?_)))))
       exact nl (At.join () z (.cons z (.cons z (.cons z (.cons z .nil)))))
      ·refine WL.gS z z z z (WL.gS z z z z (wY (Y.pick (b := false) z z) z (WL.ren (v' := vB ((decide (97 ≤ c)) && (decide (c ≤ 122)))) 29 z (congrArg vB (andF r)) ?_)))
       exact nl (At.join () z (.cons z (.cons z (.cons z (.cons z .nil)))))
     ·rintro _ _ rfl
      refine (show WL _ _ _ _ _ [(0, vs a0), (3, vi e), (4, vb c), (29, vB ((decide (97 ≤ c)) && (decide (c ≤ 122))))] _ from ?_)
      obtain ⟨d, m, h⟩ := lt1 h
      refine WL.yE (ya z) (congrArg vB m.symm) z (nl (th (sq (rg (wY (ym z) z (wY (Y.geq_b (b := 48) z z) z (wY (ym z) z ?_)))))))
      refine WL.cut 3 (σ := Unit) (fun _ w' => w = w') (fun _ => [(0, vs a0), (3, vi e), (4, vb c), (5, vB d), (35, vB ((decide (48 ≤ c)) && (decide (c ≤ 57))))]) ?_ ?_
      ·refine WL.part 32 z (fun t => ?_) (fun t => ?_)
       ·refine ug z z (wY (ym z) z (ug z z (wY (Y.leq_b (b := 57) z z) z (wY (Y.pick (b := true) z z) z (WL.ren (v' := vB ((decide (48 ≤ c)) && (decide (c ≤ 57)))) 35 z (congrArg vB (andT t)) ?_)))))
        exact nl (At.join () z (.cons z (.cons z (.cons z (.cons z (.cons z .nil))))))
       ·refine WL.gS z z z z (WL.gS z z z z (wY (Y.pick (b := false) z z) z (WL.ren (v' := vB ((decide (48 ≤ c)) && (decide (c ≤ 57)))) 35 z (congrArg vB (andF t)) ?_)))
        exact nl (At.join () z (.cons z (.cons z (.cons z (.cons z (.cons z .nil))))))
      ·rintro _ _ rfl
       refine (show WL _ _ _ _ _ [(0, vs a0), (3, vi e), (4, vb c), (5, vB d), (35, vB ((decide (48 ≤ c)) && (decide (c ≤ 57))))] _ from ?_)
       refine wY (ym z) z ?_
       refine WL.cut 3 (σ := Unit) (fun _ w' => w = w') (fun _ => [(0, vs a0), (3, vi e), (4, vb c), (5, vB d), (39, vB (((decide (48 ≤ c)) && (decide (c ≤ 57))) || (decide (c = 95))))]) ?_ ?_
       ·refine WL.part 36 z (fun C => ?_) (fun C => ?_)
        ·refine WL.gS z z z z (WL.gS z z z z (wY (Y.pick (b := true) z z) z (WL.ren (v' := vB (((decide (48 ≤ c)) && (decide (c ≤ 57))) || (decide (c = 95)))) 39 z (congrArg vB (orT C)) ?_)))
         exact nl (At.join () z (.cons z (.cons z (.cons z (.cons z (.cons z .nil))))))
        ·refine ug z z (wY (ym z) z (ug z z (wY (Y.eql_b (b := 95) z z) z (wY (Y.pick (b := false) z z) z (WL.ren (v' := vB (((decide (48 ≤ c)) && (decide (c ≤ 57))) || (decide (c = 95)))) 39 z (congrArg vB (orF C)) ?_)))))
         exact nl (At.join () z (.cons z (.cons z (.cons z (.cons z (.cons z .nil))))))
       ·rintro _ _ rfl
        refine (show WL _ _ _ _ _ [(0, vs a0), (3, vi e), (4, vb c), (5, vB d), (39, vB (((decide (48 ≤ c)) && (decide (c ≤ 57))) || (decide (c = 95))))] _ from ?_)
        refine wY (ym z) z ?_
        refine WL.cut 3 (σ := Unit) (fun _ w' => w = w') (fun _ => [(0, vs a0), (3, vi e), (5, vB d), (43, vB ((((decide (48 ≤ c)) && (decide (c ≤ 57))) || (decide (c = 95))) || (decide (c = 46))))]) ?_ ?_
        ·refine WL.part 40 z (fun D => ?_) (fun D => ?_)
         ·refine WL.gS z z z z (WL.gS z z z z (wY (Y.pick (b := true) z z) z (WL.ren (v' := vB ((((decide (48 ≤ c)) && (decide (c ≤ 57))) || (decide (c = 95))) || (decide (c = 46)))) 43 z (congrArg vB (orT D)) ?_)))
          exact nl (At.join () z (.cons z (.cons z (.cons z (.cons z .nil)))))
         ·refine ug z z (wY (ym z) z (ug z z (wY (Y.eql_b (b := 46) z z) z (wY (Y.pick (b := false) z z) z (WL.ren (v' := vB ((((decide (48 ≤ c)) && (decide (c ≤ 57))) || (decide (c = 95))) || (decide (c = 46)))) 43 z (congrArg vB (orF D)) ?_)))))
          exact nl (At.join () z (.cons z (.cons z (.cons z (.cons z .nil)))))
        ·rintro _ _ rfl
         refine (show WL _ _ _ _ _ [(0, vs a0), (3, vi e), (5, vB d), (43, vB ((((decide (48 ≤ c)) && (decide (c ≤ 57))) || (decide (c = 95))) || (decide (c = 46))))] _ from ?_)
         obtain ⟨j, E, h⟩ := lt1 h
         refine WL.yE (ya z) (congrArg vB E.symm) z (nl (th (sq (rg (wY (ym z) z (wY (Y.not z) z (wY (ym z) z ?_)))))))
         refine WL.cut 7 (σ := Unit) (fun _ w' => w = w') (fun _ => [(0, vs a0), (3, vi e), (53, vB ((!d) && ((decide (e = 0)) || (!j))))]) ?_ ?_
         ·refine WL.part 46 z (fun F => ?_) (fun F => ?_)
          ·refine ug z z (wY (ym z) z (ug z z (wY (Y.eql_i z z) z (ug z z (wY (ym z) z ?_)))))
           refine WL.cut 3 (σ := Unit) (fun _ w' => w = w') (fun _ => [(0, vs a0), (3, vi e), (46, vB true), (47, vi e), (48, vB (decide (e = 0))), (49, vB (decide (e = 0))), (52, vB ((decide (e = 0)) || (!j)))]) ?_ ?_
           ·refine WL.part 49 z (fun l => ?_) (fun l => ?_)
            ·refine WL.gS z z z z (WL.gS z z z z (ug z z (wY (Y.pick (b := true) z z) z (WL.ren (v' := vB ((decide (e = 0)) || (!j))) 52 z (congrArg vB (orT l)) (WL.ren 49 z (congrArg vB l.symm) ?_)))))
             exact nl (At.join () z (.cons z (.cons z (.cons z (.cons z (.cons z (.cons z (.cons z .nil))))))))
            ·refine ug z z (wY (ym z) z (ug z z (wY (Y.not z) z (ug z z (wY (Y.pick (b := false) z z) z (WL.ren (v' := vB ((decide (e = 0)) || (!j))) 52 z (congrArg vB (orF l)) (WL.ren 49 z (congrArg vB l.symm) ?_)))))))
             exact nl (At.join () z (.cons z (.cons z (.cons z (.cons z (.cons z (.cons z (.cons z .nil))))))))
           ·rintro _ _ rfl
            refine (show WL _ _ _ _ _ [(0, vs a0), (3, vi e), (46, vB true), (47, vi e), (48, vB (decide (e = 0))), (49, vB (decide (e = 0))), (52, vB ((decide (e = 0)) || (!j)))] _ from ?_)
            refine wY (Y.pick (b := true) z z) z (WL.ren (v' := vB ((!d) && ((decide (e = 0)) || (!j)))) 53 z (congrArg vB (andT F)) ?_)
            exact nl (At.join () z (.cons z (.cons z (.cons z .nil))))
          ·refine WL.gS z z z z (WL.gS z z z z (WL.gS z z z z (WL.gS z z z z (WL.gS z z z z (WL.gS z z z z (wY (Y.pick (b := false) z z) z (WL.ren (v' := vB ((!d) && ((decide (e = 0)) || (!j)))) 53 z (congrArg vB (andF F)) ?_)))))))
           exact nl (At.join () z (.cons z (.cons z (.cons z .nil))))
         ·rintro _ _ rfl
          refine (show WL _ _ _ _ _ [(0, vs a0), (3, vi e), (53, vB ((!d) && ((decide (e = 0)) || (!j))))] _ from ?_)
          refine nl (th ?_)
          rcases cnd h with ⟨G, h⟩ | ⟨G, h⟩
          ·refine WC.condT' z G (sq (rg (wY (ya z) z (nl (th (rt (At.inBlockR (At.thenR (At.loopR ?_)))))))))
           have h := outr1 h p H
           refine At.joinBR (At.inBlockR (At.thenR ?_))
           obtain rfl := some1 h
           have M : Stp [] (Lg.O0 (fun _ => False)) w (Lg.O0 (fun _ => False)) w := (sr_ _ _ _)
           exact At.res (.inl z) z (.tmp z .nil) ⟨z, (se_ M z z)⟩
          ·refine WC.condF' z G (sk (At.inBlock (th (rg (wY (ym z) z (wY (Y.add_i z z) z ?_))))))
           obtain ⟨S, P, h⟩ := lt1 h
           refine WL.yE (ya z) (congrArg vi P.symm) z (nl ?_)
           exact At.round S R (Nat.lt_succ_self _) ⟨next1 h p, z⟩ (.cons z (.cons z .nil))
    ·refine WC.condF' z q (WC.exit (At.thenX (At.loopX ?_)))
     exact At.hitB (σ := Unit) () ⟨brk1 h p, z⟩ .nil
   ·rintro _ _ ⟨rfl, rfl⟩
    replace h := flowK_go H
    refine (show At _ _ _ [] _ from ?_)
    refine At.inBlockHit (th (sq (rg (wY (ya z) z (nl (th (rt ?_)))))))
    obtain rfl := some1 h
    have Q : Stp [] (Lg.O0 (fun _ => False)) w (Lg.O0 (fun _ => False)) w := (sr_ _ _ _)
    exact At.res (.inl z) z (.tmp z .nil) ⟨z, (se_ Q z z)⟩
theorem c_ref11_Value {a0 : List UInt8} {w : World} {r0 : Bool} (h : ref11_Value a0 = some r0) : Rets Try.prog 113 [vs a0] w (fun v w' => v = vB r0 ∧ Ext w w') := by
 unfold ref11_Value at h
 refine Rets.enter Try.func113 z z ?_
 refine (show WC _ _ _ _ [(0, vs a0)] _ from ?_)
 refine sq (rg (wY (ya z) z (nl (th (sq (sq (rg (wY (ym z) z (wY (Y.len_s ty9 z) z ?_)))))))))
 refine wY (Y.lss_i z z) z (wY (ym z) z ?_)
 refine WL.cut 4 (σ := Unit) (fun _ w' => w = w') (fun _ => [(0, vs a0), (12, vB ((decide ((a0.length : Int) < 1)) || (decide (32 < (a0.length : Int)))))]) ?_ ?_
 ·refine WL.part 8 z (fun e => ?_) (fun e => ?_)
  ·refine WL.gS z z z z (WL.gS z z z z (WL.gS z z z z (wY (Y.pick (b := true) z z) z (WL.ren (v' := vB ((decide ((a0.length : Int) < 1)) || (decide (32 < (a0.length : Int))))) 12 z (congrArg vB (orT e)) ?_))))
   exact nl (At.join () z (.cons z (.cons z .nil)))
  ·refine ug z z (wY (ym z) z (ug z z (wY (Y.len_s ty9 z) z (ug z z (wY (Y.gtr_i z z) z (wY (Y.pick (b := false) z z) z (WL.ren (v' := vB ((decide ((a0.length : Int) < 1)) || (decide (32 < (a0.length : Int))))) 12 z (congrArg vB (orF e)) ?_)))))))
   exact nl (At.join () z (.cons z (.cons z .nil)))
 ·rintro _ _ rfl
  refine (show WL _ _ _ _ _ [(0, vs a0), (12, vB ((decide ((a0.length : Int) < 1)) || (decide (32 < (a0.length : Int)))))] _ from ?_)
  refine nl (th ?_)
  rcases cnd h with ⟨j, h⟩ | ⟨j, h⟩
  ·refine WC.condT' z j (sq (rg (wY (ya z) z (nl (th (rt (At.thenR ?_)))))))
   obtain rfl := some1 h
   have E : Stp [] (Lg.O0 (fun _ => False)) w (Lg.O0 (fun _ => False)) w := (sr_ _ _ _)
   exact At.res (.inl z) z (.tmp z .nil) ⟨z, (se_ E z z)⟩
  ·refine WC.condF' z j (sk (th (sq (sq (rg (wY (ya z) z (nl (th (WC.block ?_)))))))))
   obtain ⟨C, h, t⟩ := flow1 h
   obtain ⟨D, h⟩ := loop_some h
   refine WC.joinB 0 (σ := Unit) (fun x w' => C = .go () ∧ w = w') (fun x => []) ?_ ?_
   ·refine WC.loop (σ := Int) (fun x k w' => loopN k (ref11_Value_lp1 a0) x = some C ∧ w = w') (fun x => [(0, vs a0), (3, vi x)]) 0 D (.cons z (.cons z .nil)) ⟨h, z⟩ ?_
    rintro d D _ ⟨h, rfl⟩
    obtain ⟨J, L, rfl, h, l⟩ := rnd1 h
    unfold ref11_Value_lp1 at h
    try dsimp only at h
    refine (show WC _ _ _ _ [(0, vs a0), (3, vi d)] _ from ?_)
    refine sq (sq (rg (wY (ym z) z (wY (ym z) z (wY (Y.len_s ty9 z) z (wY (Y.lss_i z z) z (nl (th ?_))))))))
    rcases cnd h with ⟨m, h⟩ | ⟨m, h⟩
    ·refine WC.condT' z m (sk (th (sq (WC.block (sq (rg (wY (ym z) z (wY (ym z) z ?_))))))))
     obtain ⟨c, F, h⟩ := bnd h
     refine wY (Y.index_s ty9 z z F) z (wY (ya z) z (nl (th (sq (rg (wY (ym z) z (wY (Y.leq_b (b := 32) z z) z (wY (ym z) z ?_))))))))
     refine WL.cut 3 (σ := Unit) (fun _ w' => w = w') (fun _ => [(0, vs a0), (3, vi d), (4, vb c), (27, vB ((decide (c ≤ 32)) || (decide (127 ≤ c))))]) ?_ ?_
     ·refine WL.part 24 z (fun n => ?_) (fun n => ?_)
      ·refine WL.gS z z z z (WL.gS z z z z (wY (Y.pick (b := true) z z) z (WL.ren (v' := vB ((decide (c ≤ 32)) || (decide (127 ≤ c)))) 27 z (congrArg vB (orT n)) ?_)))
       exact nl (At.join () z (.cons z (.cons z (.cons z (.cons z .nil)))))
      ·refine ug z z (wY (ym z) z (ug z z (wY (Y.geq_b (b := 127) z z) z (wY (Y.pick (b := false) z z) z (WL.ren (v' := vB ((decide (c ≤ 32)) || (decide (127 ≤ c)))) 27 z (congrArg vB (orF n)) ?_)))))
       exact nl (At.join () z (.cons z (.cons z (.cons z (.cons z .nil)))))
     ·rintro _ _ rfl
      refine (show WL _ _ _ _ _ [(0, vs a0), (3, vi d), (4, vb c), (27, vB ((decide (c ≤ 32)) || (decide (127 ≤ c))))] _ from ?_)
      refine wY (ym z) z ?_
      refine WL.cut 3 (σ := Unit) (fun _ w' => w = w') (fun _ => [(0, vs a0), (3, vi d), (4, vb c), (31, vB (((decide (c ≤ 32)) || (decide (127 ≤ c))) || (decide (c = 61))))]) ?_ ?_
      ·refine WL.part 28 z (fun o => ?_) (fun o => ?_)
       ·refine WL.gS z z z z (WL.gS z z z z (wY (Y.pick (b := true) z z) z (WL.ren (v' := vB (((decide (c ≤ 32)) || (decide (127 ≤ c))) || (decide (c = 61)))) 31 z (congrArg vB (orT o)) ?_)))
        exact nl (At.join () z (.cons z (.cons z (.cons z (.cons z .nil)))))
       ·refine ug z z (wY (ym z) z (ug z z (wY (Y.eql_b (b := 61) z z) z (wY (Y.pick (b := false) z z) z (WL.ren (v' := vB (((decide (c ≤ 32)) || (decide (127 ≤ c))) || (decide (c = 61)))) 31 z (congrArg vB (orF o)) ?_)))))
        exact nl (At.join () z (.cons z (.cons z (.cons z (.cons z .nil)))))
      ·rintro _ _ rfl
       refine (show WL _ _ _ _ _ [(0, vs a0), (3, vi d), (4, vb c), (31, vB (((decide (c ≤ 32)) || (decide (127 ≤ c))) || (decide (c = 61))))] _ from ?_)
       refine wY (ym z) z ?_
       refine WL.cut 3 (σ := Unit) (fun _ w' => w = w') (fun _ => [(0, vs a0), (3, vi d), (4, vb c), (35, vB ((((decide (c ≤ 32)) || (decide (127 ≤ c))) || (decide (c = 61))) || (decide (c = 59))))]) ?_ ?_
       ·refine WL.part 32 z (fun p => ?_) (fun p => ?_)
        ·refine WL.gS z z z z (WL.gS z z z z (wY (Y.pick (b := true) z z) z (WL.ren (v' := vB ((((decide (c ≤ 32)) || (decide (127 ≤ c))) || (decide (c = 61))) || (decide (c = 59)))) 35 z (congrArg vB (orT p)) ?_)))
         exact nl (At.join () z (.cons z (.cons z (.cons z (.cons z .nil)))))
        ·refine ug z z (wY (ym z) z (ug z z (wY (Y.eql_b (b := 59) z z) z (wY (Y.pick (b := false) z z) z (WL.ren (v' := vB ((((decide (c ≤ 32)) || (decide (127 ≤ c))) || (decide (c = 61))) || (decide (c = 59)))) 35 z (congrArg vB (orF p)) ?_)))))
         exact nl (At.join () z (.cons z (.cons z (.cons z (.cons z .nil)))))
       ·rintro _ _ rfl
        refine (show WL _ _ _ _ _ [(0, vs a0), (3, vi d), (4, vb c), (35, vB ((((decide (c ≤ 32)) || (decide (127 ≤ c))) || (decide (c = 61))) || (decide (c = 59))))] _ from ?_)
        refine wY (ym z) z ?_
        refine WL.cut 3 (σ := Unit) (fun _ w' => w = w') (fun _ => [(0, vs a0), (3, vi d), (39, vB (((((decide (c ≤ 32)) || (decide (127 ≤ c))) || (decide (c = 61))) || (decide (c = 59))) || (decide (c = 44))))]) ?_ ?_
        ·refine WL.part 36 z (fun q => ?_) (fun q => ?_)
         ·refine WL.gS z z z z (WL.gS z z z z (wY (Y.pick (b := true) z z) z (WL.ren (v' := vB (((((decide (c ≤ 32)) || (decide (127 ≤ c))) || (decide (c = 61))) || (decide (c = 59))) || (decide (c = 44)))) 39 z (congrArg vB (orT q)) ?_)))
          exact nl (At.join () z (.cons z (.cons z (.cons z .nil))))
         ·refine ug z z (wY (ym z) z (ug z z (wY (Y.eql_b (b := 44) z z) z (wY (Y.pick (b := false) z z) z (WL.ren (v' := vB (((((decide (c ≤ 32)) || (decide (127 ≤ c))) || (decide (c = 61))) || (decide (c = 59))) || (decide (c = 44)))) 39 z (congrArg vB (orF q)) ?_)))))
          exact nl (At.join () z (.cons z (.cons z (.cons z .nil))))
        ·rintro _ _ rfl
         refine (show WL _ _ _ _ _ [(0, vs a0), (3, vi d), (39, vB (((((decide (c ≤ 32)) || (decide (127 ≤ c))) || (decide (c = 61))) || (decide (c = 59))) || (decide (c = 44))))] _ from ?_)
         refine nl (th ?_)
         rcases cnd h with ⟨r, h⟩ | ⟨r, h⟩
         ·refine WC.condT' z r (sq (rg (wY (ya z) z (nl (th (rt (At.inBlockR (At.thenR (At.loopR ?_)))))))))
          have h := outr1 h l t
          refine At.joinBR (At.inBlockR (At.thenR ?_))
          obtain rfl := some1 h
          have G : Stp [] (Lg.O0 (fun _ => False)) w (Lg.O0 (fun _ => False)) w := (sr_ _ _ _)
          exact At.res (.inl z) z (.tmp z .nil) ⟨z, (se_ G z z)⟩
         ·refine WC.condF' z r (sk (At.inBlock (th (rg (wY (ym z) z (wY (Y.add_i z z) z ?_))))))
          obtain ⟨K, H, h⟩ := lt1 h
          refine WL.yE (ya z) (congrArg vi H.symm) z (nl ?_)
          exact At.round K J (Nat.lt_succ_self _) ⟨next1 h l, z⟩ (.cons z (.cons z .nil))
    ·refine WC.condF' z m (WC.exit (At.thenX (At.loopX ?_)))
     exact At.hitB (σ := Unit) () ⟨brk1 h l, z⟩ .nil
   ·rintro _ _ ⟨rfl, rfl⟩
    replace h := flowK_go t
    refine (show At _ _ _ [] _ from ?_)
    refine At.inBlockHit (th (sq (rg (wY (ya z) z (nl (th (rt ?_)))))))
    obtain rfl := some1 h
    have I : Stp [] (Lg.O0 (fun _ => False)) w (Lg.O0 (fun _ => False)) w := (sr_ _ _ _)
    exact At.res (.inl z) z (.tmp z .nil) ⟨z, (se_ I z z)⟩
theorem c_ref11_Check {A : Nat → Prop} {a0 : List UInt8} {a1 : List api_Pair} {v1 : Value} {w : World} (hs1 : Sl rep_api_Pair w A v1 a1) {r0 : Int} (h : ref11_Check a0 a1 = some r0) : Rets Try.prog 98 [vs a0, v1] w (fun v w' => v = vi r0 ∧ Ext w w') := by
 unfold ref11_Check at h
 refine Rets.enter Try.func98 z z ?_
 have aQ : Sl rep_api_Pair w (imm (Lg.O0 A)) v1 a1 := (Sl.start hs1)
 refine (show WC _ _ _ _ [(0, vs a0), (1, v1)] _ from ?_)
 refine sq (rg (wY (ya z) z (nl (th (sq (sq (rg (wY (ym z) z ?_))))))))
 obtain ⟨b2, aR, h⟩ := bnd h
 refine WL.call (vals := [vs a0]) kok112 z z (c_ref11_Name aR) ?_
 rintro bQ o ⟨rfl, aS⟩
 obtain ⟨G, bm, bn, d⟩ := adoptE (Lg.O0 A) (fun k => 1) aS
 refine wY (Y.not z) z (nl (th ?_))
 rcases cnd h with ⟨I, h⟩ | ⟨I, h⟩
 ·refine WC.condT' z I (sq (rg (wY (ya z) z (nl (th (rt (At.thenR ?_)))))))
  obtain rfl := some1 h
  have aT : Stp [] (Lg.O0 A) w G o := (su_ d z)
  exact At.res (.inl z) z (.tmp z .nil) ⟨z, (se_ aT z z)⟩
 ·refine WC.condF' z I (sk (th (sq (sq (rg (wY (ym z) z ?_))))))
  have aa := aQ.i d z z
  refine wY (Y.len ty35 z aa) z (wY (Y.gtr_i z z) z (nl (th ?_)))
  rcases cnd h with ⟨J, h⟩ | ⟨J, h⟩
  ·refine WC.condT' z J (sq (rg (wY (ya z) z (nl (th (rt (At.thenR ?_)))))))
   obtain rfl := some1 h
   have aU : Stp [] (Lg.O0 A) w G o := (su_ d z)
   exact At.res (.inl z) z (.tmp z .nil) ⟨z, (se_ aU z z)⟩
  ·refine WC.condF' z J (sk (th (sq (sq (rg (wY (ya z) z (nl (th (WC.block ?_)))))))))
   obtain ⟨aN, h, K⟩ := flow1 h
   obtain ⟨aO, h⟩ := loop_some h
   refine WC.joinB 0 (σ := Own) (fun x w' => aN = .go () ∧ Stp [] G o x w') (fun x => []) ?_ ?_
   ·refine WC.loop (σ := (Int × Own)) (fun x k w' => loopN k (ref11_Check_lp1 a1) x.1 = some aN ∧ Stp [] G o x.2 w') (fun x => [(1, v1), (5, vi x.1)]) (0, G) aO (.cons z (.cons z .nil)) ⟨h, (sr_ _ _ _)⟩ ?_
    rintro ⟨j, aP⟩ aO bR ⟨h, e⟩
    obtain ⟨bo, b3, rfl, h, p⟩ := rnd1 h
    unfold ref11_Check_lp1 at h
    try dsimp only at h e
    refine (show WC _ _ _ _ [(1, v1), (5, vi j)] _ from ?_)
    refine sq (sq (rg (wY (ym z) z (wY (ym z) z ?_))))
    have q := aa.i e z z
    refine wY (Y.len ty35 z q) z (wY (Y.lss_i z z) z (nl (th ?_)))
    rcases cnd h with ⟨L, h⟩ | ⟨L, h⟩
    ·refine WC.condT' z L (sk (th (sq (WC.block (sq (sq (rg (wY (ym z) z (wY (ym z) z ?_)))))))))
     obtain ⟨U, aW, h⟩ := bnd h
     obtain ⟨b4, bH, bI, bS, aX, aY, aZ, M, al, a2⟩ := Sl.at2 q aW
     obtain ⟨_, _, rfl, rfl, rfl⟩ := al
     replace M : CellsAt _ _ _ [vs U.Key, vs U.Val] := M
     have am := CAt.imm M a2
     refine wY (Y.indexAddr ty35 ty107 z aX z aY aZ) z (wY (yf fo107_0 z) z (wY (yl ty9 z z (am.at_.sub 0 [vs U.Key] z)) z ?_))
     obtain ⟨b5, a3, h⟩ := bnd h
     refine WL.call (vals := [vs U.Key]) kok112 z z (c_ref11_Name a3) ?_
     rintro bT a4 ⟨rfl, a5⟩
     obtain ⟨ab, bp, bq, l⟩ := adoptE aP (fun k => 1) a5
     refine wY (Y.not z) z (wY (ym z) z ?_)
     obtain ⟨br, h, a6⟩ := bnd h
     refine WL.cut 8 (σ := (Bool × Own)) (fun x w' => x.1 = br ∧ Stp [] ab a4 x.2 w') (fun x => [(1, v1), (5, vi j), (34, vB x.1)]) ?_ ?_
     ·rcases cnd h with ⟨P, h⟩ | ⟨P, h⟩
      ·refine WL.ren 26 z (congrArg vB P) (WL.gS z z z z (WL.gS z z z z (WL.gS z z z z (WL.gS z z z z (WL.gS z z z z (WL.gS z z z z (WL.gS z z z z (wY (Y.pick (b := true) z z) z ?_))))))))
       exact nl (At.join (σ := (Bool × Own)) (true, ab) ⟨some1 h, (sr_ _ _ _)⟩ (.cons z (.cons z (.cons z .nil))))
      ·refine WL.ren 26 z (congrArg vB P) (ug z z (wY (ym z) z (ug z z (wY (ym z) z (ug z z ?_)))))
       obtain ⟨V, a7, h⟩ := bnd h
       have a8 := q.i l z z
       obtain ⟨b6, bJ, bK, bU, a9, ba, bb, Q, an, bc⟩ := Sl.at2 a8 a7
       obtain ⟨_, _, rfl, rfl, rfl⟩ := an
       replace Q : CellsAt _ _ _ [vs V.Key, vs V.Val] := Q
       have ao := CAt.imm Q bc
       refine wY (Y.indexAddr ty35 ty107 z a9 z ba bb) z (ug z z (wY (yf fo107_1 z) z (ug z z (wY (yl ty9 z z (ao.at_.sub 1 [vs V.Val] z)) z (ug z z ?_)))))
       obtain ⟨bs, bd, h⟩ := bnd h
       refine WL.call (vals := [vs V.Val]) kok113 z z (c_ref11_Value bd) ?_
       rintro bW bX ⟨rfl, bf⟩
       obtain ⟨bt, bu, bw, ap⟩ := adoptE ab (fun k => 1) bf
       refine ug z z (wY (Y.not z) z (wY (Y.pick (b := false) z z) z ?_))
       exact nl (At.join (σ := (Bool × Own)) ((!bs), bt) ⟨some1 h, (su_ ap z)⟩ (.cons z (.cons z (.cons z .nil))))
     ·rintro ⟨bx, H⟩ r ⟨rfl, m⟩
      replace h := a6
      try dsimp only at h m
      refine (show WL _ _ _ _ _ [(1, v1), (5, vi j), (34, vB bx)] _ from ?_)
      refine nl (th ?_)
      rcases cnd h with ⟨R, h⟩ | ⟨R, h⟩
      ·refine WC.condT' z R (sq (rg (wY (ya z) z (nl (th (rt (At.thenR (At.inBlockR (At.thenR ?_)))))))))
       refine At.loopR ?_
       have h := outr1 h p K
       refine At.joinBR (At.inBlockR (At.thenR ?_))
       obtain rfl := some1 h
       have bg : Stp [] (Lg.O0 A) w H r := (tr_ (su_ d z) (tr_ (su_ e z) (tr_ (su_ l z) (su_ m z))))
       exact At.res (.inl z) z (.tmp z .nil) ⟨z, (se_ bg z z)⟩
      ·refine WC.condF' z R (sk (th (sq (rg (wY (ya z) z (nl (th ?_)))))))
       obtain ⟨bz, h, ac⟩ := flow1 h
       refine WC.join (σ := Own) (fun x w' => bz = .go () ∧ Stp [] H r x w') (fun x => [(1, v1), (5, vi j)]) ?_ ?_
       ·refine WC.block ?_
        obtain ⟨ad, h, W⟩ := flow1 h
        obtain ⟨ae, h⟩ := loop_some h
        refine WC.joinB 2 (σ := Own) (fun x w' => ad = .go () ∧ Stp [] H r x w') (fun x => [(1, v1), (5, vi j)]) ?_ ?_
        ·refine WC.loop (σ := (Int × Own)) (fun x k w' => loopN k (ref11_Check_lp2 a1 j) x.1 = some ad ∧ Stp [] H r x.2 w') (fun x => [(1, v1), (5, vi j), (6, vi x.1)]) (0, H) ae (.cons z (.cons z (.cons z .nil))) ⟨h, (sr_ _ _ _)⟩ ?_
         rintro ⟨bA, X⟩ ae bL ⟨h, c⟩
         obtain ⟨bh, bY, rfl, h, t⟩ := rnd1 h
         unfold ref11_Check_lp2 at h
         try dsimp only at h c
         refine (show WC _ _ _ _ [(1, v1), (5, vi j), (6, vi bA)] _ from ?_)
         refine sq (sq (rg (wY (ym z) z (wY (ym z) z (wY (Y.lss_i z z) z (nl (th ?_)))))))
         rcases cnd h with ⟨C, h⟩ | ⟨C, h⟩
         ·refine WC.condT' z C (sk (th (sq (WC.block (sq (WC.draw 10 X fmix (by kernel_rfl) ?_))))))
          intro aq n
          refine WS.y (ym z) z (WS.y (ym z) z ?_)
          obtain ⟨S, ar, h⟩ := bnd h
          have au := q.i l z z
          have av := au.i m z z
          have aw := av.i c z z
          have Z := aw.i n z z
          obtain ⟨bZ, bB, bC, bM, ax, ay, az, D, af, aA⟩ := Sl.at2 Z ar
          obtain ⟨_, _, rfl, rfl, rfl⟩ := af
          replace D : CellsAt _ _ _ [vs S.Key, vs S.Val] := D
          have ah := CAt.imm D aA
          refine WS.y (Y.indexAddr ty35 ty107 z ax z ay az) z (WS.y (yf fo107_0 z) z (WS.y (yl ty9 z z (ah.at_.sub 0 [vs S.Key] z)) z (WS.y (ym z) z (WS.y (ym z) z ?_))))
          obtain ⟨T, aC, h⟩ := bnd h
          obtain ⟨b0, bD, bE, bO, aD, aE, aF, E, ai, aG⟩ := Sl.at2 Z aC
          obtain ⟨_, _, rfl, rfl, rfl⟩ := ai
          replace E : CellsAt _ _ _ [vs T.Key, vs T.Val] := E
          have aj := CAt.imm E aG
          refine WS.y (Y.indexAddr ty35 ty107 z aD z aE aF) z (WS.y (yf fo107_0 z) z (WS.y (yl ty9 z z (aj.at_.sub 0 [vs T.Key] z)) z (WS.tail (wY (Y.eql_s z z) z (nl (th ?_))))))
          rcases cnd h with ⟨F, h⟩ | ⟨F, h⟩
          ·refine WC.condT' z F (sq (rg (wY (ya z) z (nl (th (rt (At.inBlockR (At.thenR (At.loopR ?_)))))))))
           have h := outr1 h t W
           refine At.joinBR (At.inBlockR ?_)
           have h := outs1 h ac
           refine At.joinR (At.inBlockR (At.thenR (At.loopR ?_)))
           have h := outr1 h p K
           refine At.joinBR (At.inBlockR (At.thenR ?_))
           obtain rfl := some1 h
           have aH : Stp [] (Lg.O0 A) w X aq := (tr_ (su_ d z) (tr_ (su_ e z) (tr_ (su_ l z) (tr_ (su_ m z) (tr_ (su_ c z) (su_ n z))))))
           exact At.res (.inl z) z (.tmp z .nil) ⟨z, (se_ aH z z)⟩
          ·refine WC.condF' z F (sk (At.inBlock (th (rg (wY (ym z) z (wY (Y.add_i z z) z ?_))))))
           obtain ⟨bi, aI, h⟩ := lt1 h
           refine WL.yE (ya z) (congrArg vi aI.symm) z (nl ?_)
           exact At.round (bi, X) bh (Nat.lt_succ_self _) ⟨next1 h t, (tr_ (su_ c z) (su_ n z))⟩ (.cons z (.cons z (.cons z .nil)))
         ·refine WC.condF' z C (WC.exit (At.thenX (At.loopX ?_)))
          exact At.hitB (σ := Own) X ⟨brk1 h t, (su_ c z)⟩ (.cons z (.cons z .nil))
        ·rintro bj bP ⟨rfl, ak⟩
         replace h := flowK_go W
         refine (show At _ _ _ [(1, v1), (5, vi j)] _ from ?_)
         refine At.inBlockHit ?_
         exact At.join (σ := Own) bj ⟨go2 h, (su_ ak z)⟩ (.cons z (.cons z .nil))
       ·rintro bF b1 ⟨rfl, aJ⟩
        replace h := flowK_go ac
        refine (show At _ _ _ [(1, v1), (5, vi j)] _ from ?_)
        refine At.inBlock (th (rg (wY (ym z) z (wY (Y.add_i z z) z ?_))))
        obtain ⟨bk, aK, h⟩ := lt1 h
        refine WL.yE (ya z) (congrArg vi aK.symm) z (nl ?_)
        exact At.round (bk, bF) bo (Nat.lt_succ_self _) ⟨next1 h p, (tr_ (su_ e z) (tr_ (su_ l z) (tr_ (su_ m z) (su_ aJ z))))⟩ (.cons z (.cons z .nil))
    ·refine WC.condF' z L (WC.exit (At.thenX (At.loopX ?_)))
     exact At.hitB (σ := Own) aP ⟨brk1 h p, (su_ e z)⟩ .nil
   ·rintro bG bl ⟨rfl, aL⟩
    replace h := flowK_go K
    refine (show At _ _ _ [] _ from ?_)
    refine At.inBlockHit (th (sq (rg (wY (ya z) z (nl (th (rt ?_)))))))
    obtain rfl := some1 h
    have aM : Stp [] (Lg.O0 A) w bG bl := (tr_ (su_ d z) (su_ aL z))
    exact At.res (.inl z) z (.tmp z .nil) ⟨z, (se_ aM z z)⟩
theorem c_ref12_none {A : Nat → Prop} {v0_3 : Value} {v0_5 : Value} {a0 : api_Hist} {w : World} (hs0_3 : Sl Rep.u w A v0_3 a0.Pos.Counts) (hs0_5 : Sl Rep.u w A v0_5 a0.Neg.Counts) {r0 : Bool} (h : ref12_none a0 = some r0) : Rets Try.prog 99 [ag [vi a0.Scale, vu a0.Zero, vi a0.Pos.Offset, v0_3, vi a0.Neg.Offset, v0_5]] w (fun v w' => v = vB r0 ∧ Ext w w') := by
 unfold ref12_none at h
 refine Rets.enter Try.func99 z z ?_
 have d : Sl Rep.u w (imm (Lg.O0 A)) v0_3 a0.Pos.Counts := (Sl.start hs0_3)
 have e : Sl Rep.u w (imm (Lg.O0 A)) v0_5 a0.Neg.Counts := (Sl.start hs0_5)
 refine (show WC _ _ _ _ [(0, ag [vi a0.Scale, vu a0.Zero, vi a0.Pos.Offset, v0_3, vi a0.Neg.Offset, v0_5])] _ from ?_)
 refine sq (rg ?_)
 have r := h
 obtain ⟨j, l, m, rfl⟩ := d.shape
 have h := r
 have t := h
 obtain ⟨n, o, p, rfl⟩ := e.shape
 have h := t
 refine WL.box (O := (Lg.O0 A)) 11 [vi a0.Scale, vu a0.Zero, vi a0.Pos.Offset, (Value.slice j l m), vi a0.Neg.Offset, (Value.slice n o p)] z z z ?_
 intro R J P c C
 refine wY (ya z) z (nl (th (sq (rg (wY (yL ty30 z z (C.cells 0 [vi a0.Scale, vu a0.Zero, vi a0.Pos.Offset, (Value.slice j l m), vi a0.Neg.Offset, (Value.slice n o p)] z) z) z (wY (yb (vals := []) (cells := [vi 0, vu 0, vi 0, Value.slice none 0 0, vi 0, Value.slice none 0 0]) (fe_ z) (by kernel_rfl)) z ?_))))))
 have D := d.i c z z
 have E := e.i c z z
 obtain ⟨S, F, h⟩ := bnd h
 refine WL.call (vals := [ag [vi a0.Scale, vu a0.Zero, vi a0.Pos.Offset, (Value.slice j l m), vi a0.Neg.Offset, (Value.slice n o p)], ag [vi 0, vu 0, vi 0, Value.slice none 0 0, vi 0, Value.slice none 0 0]]) kok26 z z (c_ref08_Same (A := fun _ => True) (a0 := a0) (a1 := (api_Hist.mk 0 0 (api_Side.mk 0 []) (api_Side.mk 0 []))) (Sl.all D) (Sl.all E) (Or.inl ⟨z, z⟩) (Or.inl ⟨z, z⟩) F) ?_
 rintro Q G ⟨rfl, H⟩
 obtain ⟨K, L, M, q⟩ := adoptE J (fun k => 1) H
 refine wY (ya z) z (nl (th (rt ?_)))
 obtain rfl := some1 h
 have I : Stp [] (Lg.O0 A) w K G := (tr_ (su_ c z) (su_ q z))
 exact At.res (.inl z) z (.tmp z .nil) ⟨z, (se_ I z z)⟩
theorem c_ref05_Odd {a0 : UInt64} {w : World} {r0 : Bool} (h : ref05_Odd a0 = some r0) : Rets Try.prog 101 [vu a0] w (fun v w' => v = vB r0 ∧ Ext w w') := by
 unfold ref05_Odd at h
 refine Rets.enter Try.func101 z z ?_
 refine (show WC _ _ _ _ [(0, vu a0)] _ from ?_)
 refine sq (rg (wY (ya z) z (nl (th (sq (rg (wY (ym z) z (wY (Y.quo_u (b := 4503599627370496) (by decide) z z) z (wY (Y.rem_u (b := 2048) (by decide) z z) z ?_)))))))))
 refine wY (Y.eql_u (b := 2047) z z) z (wY (ym z) z ?_)
 refine WL.cut 4 (σ := Unit) (fun _ w' => w = w') (fun _ => [(11, vB ((decide (((a0 / 4503599627370496) % 2048) = 2047)) && (!decide ((a0 % 4503599627370496) = 0))))]) ?_ ?_
 ·refine WL.part 7 z (fun c => ?_) (fun c => ?_)
  ·refine ug z z (wY (ym z) z (ug z z (wY (Y.rem_u (b := 4503599627370496) (by decide) z z) z (ug z z (wY (Y.neq_u (b := 0) z z) z (wY (Y.pick (b := true) z z) z (WL.ren (v' := vB ((decide (((a0 / 4503599627370496) % 2048) = 2047)) && (!decide ((a0 % 4503599627370496) = 0)))) 11 z (congrArg vB (andT c)) ?_)))))))
   exact nl (At.join () z (.cons z .nil))
  ·refine WL.gS z z z z (WL.gS z z z z (WL.gS z z z z (wY (Y.pick (b := false) z z) z (WL.ren (v' := vB ((decide (((a0 / 4503599627370496) % 2048) = 2047)) && (!decide ((a0 % 4503599627370496) = 0)))) 11 z (congrArg vB (andF c)) ?_))))
   exact nl (At.join () z (.cons z .nil))
 ·rintro _ _ rfl
  refine (show WL _ _ _ _ _ [(11, vB ((decide (((a0 / 4503599627370496) % 2048) = 2047)) && (!decide ((a0 % 4503599627370496) = 0))))] _ from ?_)
  obtain ⟨j, d, h⟩ := lt1 h
  refine WL.yE (ya z) (congrArg vB d.symm) z (nl (th (rt ?_)))
  obtain rfl := some1 h
  have e : Stp [] (Lg.O0 (fun _ => False)) w (Lg.O0 (fun _ => False)) w := (sr_ _ _ _)
  exact At.res (.inl z) z (.tmp z .nil) ⟨z, (se_ e z z)⟩
theorem c_ref05_Less {a0 : UInt64} {a1 : UInt64} {w : World} {r0 : Bool} (h : ref05_Less a0 a1 = some r0) : Rets Try.prog 100 [vu a0, vu a1] w (fun v w' => v = vB r0 ∧ Ext w w') := by
 unfold ref05_Less at h
 refine Rets.enter Try.func100 z z ?_
 refine (show WC _ _ _ _ [(0, vu a0), (1, vu a1)] _ from ?_)
 refine sq (rg (wY (ya z) z (nl (th (sq (sq (rg (wY (ym z) z ?_))))))))
 obtain ⟨al, G, h⟩ := bnd h
 refine WL.call (vals := [vu a0]) kok101 z z (c_ref05_Odd G) ?_
 rintro ai H ⟨rfl, I⟩
 obtain ⟨E, Z, aa, l⟩ := adoptE (Lg.O0 (fun _ => False)) (fun k => 1) I
 refine wY (ym z) z ?_
 obtain ⟨ab, h, J⟩ := bnd h
 refine WL.cut 3 (σ := (Bool × Own)) (fun x w' => x.1 = ab ∧ Stp [] E H x.2 w') (fun x => [(0, vu a0), (1, vu a1), (12, vB x.1)]) ?_ ?_
 ·rcases cnd h with ⟨n, h⟩ | ⟨n, h⟩
  ·refine WL.ren 9 z (congrArg vB n) (WL.gS z z z z (WL.gS z z z z (wY (Y.pick (b := true) z z) z ?_)))
   exact nl (At.join (σ := (Bool × Own)) (true, E) ⟨some1 h, (sr_ _ _ _)⟩ (.cons z (.cons z (.cons z .nil))))
  ·refine WL.ren 9 z (congrArg vB n) (ug z z (wY (ym z) z (ug z z ?_)))
   obtain ⟨ac, K, h⟩ := bnd h
   refine WL.call (vals := [vu a1]) kok101 z z (c_ref05_Odd K) ?_
   rintro aj ak ⟨rfl, L⟩
   obtain ⟨ad, ae, af, F⟩ := adoptE E (fun k => 1) L
   refine wY (Y.pick (b := false) z z) z ?_
   exact nl (At.join (σ := (Bool × Own)) (ac, ad) ⟨some1 h, (su_ F z)⟩ (.cons z (.cons z (.cons z .nil))))
 ·rintro ⟨ah, m⟩ c ⟨rfl, d⟩
  replace h := J
  try dsimp only at h d
  refine (show WL _ _ _ _ _ [(0, vu a0), (1, vu a1), (12, vB ah)] _ from ?_)
  refine nl (th ?_)
  rcases cnd h with ⟨o, h⟩ | ⟨o, h⟩
  ·refine WC.condT' z o (sq (rg (wY (ya z) z (nl (th (rt (At.thenR ?_)))))))
   obtain rfl := some1 h
   have M : Stp [] (Lg.O0 (fun _ => False)) w m c := (tr_ (su_ l z) (su_ d z))
   exact At.res (.inl z) z (.tmp z .nil) ⟨z, (se_ M z z)⟩
  ·refine WC.condF' z o (sk (th (sq (rg (wY (ym z) z (wY (Y.rem_u (b := 9223372036854775808) (by decide) z z) z (wY (ym z) z (wY (Y.rem_u (b := 9223372036854775808) (by decide) z z) z ?_))))))))
   obtain ⟨e, P, h⟩ := lt1 h
   refine WL.yE (ya z) (congrArg vu P.symm) z ?_
   obtain ⟨j, Q, h⟩ := lt1 h
   refine WL.yE (ya z) (congrArg vu Q.symm) z (nl (th (sq (sq (rg (wY (ym z) z (wY (Y.eql_u (b := 0) z z) z (wY (ym z) z ?_))))))))
   refine WL.cut 3 (σ := Unit) (fun _ w' => c = w') (fun _ => [(0, vu a0), (1, vu a1), (5, vu e), (6, vu j), (22, vB ((decide (e = 0)) && (decide (j = 0))))]) ?_ ?_
   ·refine WL.part 19 z (fun p => ?_) (fun p => ?_)
    ·refine ug z z (wY (ym z) z (ug z z (wY (Y.eql_u (b := 0) z z) z (wY (Y.pick (b := true) z z) z (WL.ren (v' := vB ((decide (e = 0)) && (decide (j = 0)))) 22 z (congrArg vB (andT p)) ?_)))))
     exact nl (At.join () z (.cons z (.cons z (.cons z (.cons z (.cons z .nil))))))
    ·refine WL.gS z z z z (WL.gS z z z z (wY (Y.pick (b := false) z z) z (WL.ren (v' := vB ((decide (e = 0)) && (decide (j = 0)))) 22 z (congrArg vB (andF p)) ?_)))
     exact nl (At.join () z (.cons z (.cons z (.cons z (.cons z (.cons z .nil))))))
   ·rintro _ _ rfl
    refine (show WL _ _ _ _ _ [(0, vu a0), (1, vu a1), (5, vu e), (6, vu j), (22, vB ((decide (e = 0)) && (decide (j = 0))))] _ from ?_)
    refine nl (th ?_)
    rcases cnd h with ⟨q, h⟩ | ⟨q, h⟩
    ·refine WC.condT' z q (sq (rg (wY (ya z) z (nl (th (rt (At.thenR ?_)))))))
     obtain rfl := some1 h
     have R : Stp [] (Lg.O0 (fun _ => False)) w m c := (tr_ (su_ l z) (su_ d z))
     exact At.res (.inl z) z (.tmp z .nil) ⟨z, (se_ R z z)⟩
    ·refine WC.condF' z q (sk (th (sq (sq (rg (wY (ym z) z (wY (Y.geq_u (b := 9223372036854775808) z z) z (wY (ym z) z ?_))))))))
     refine WL.cut 3 (σ := Unit) (fun _ w' => c = w') (fun _ => [(0, vu a0), (1, vu a1), (5, vu e), (6, vu j), (28, vB ((decide (9223372036854775808 ≤ a0)) && (decide (9223372036854775808 ≤ a1))))]) ?_ ?_
     ·refine WL.part 25 z (fun r => ?_) (fun r => ?_)
      ·refine ug z z (wY (ym z) z (ug z z (wY (Y.geq_u (b := 9223372036854775808) z z) z (wY (Y.pick (b := true) z z) z (WL.ren (v' := vB ((decide (9223372036854775808 ≤ a0)) && (decide (9223372036854775808 ≤ a1)))) 28 z (congrArg vB (andT r)) ?_)))))
       exact nl (At.join () z (.cons z (.cons z (.cons z (.cons z (.cons z .nil))))))
      ·refine WL.gS z z z z (WL.gS z z z z (wY (Y.pick (b := false) z z) z (WL.ren (v' := vB ((decide (9223372036854775808 ≤ a0)) && (decide (9223372036854775808 ≤ a1)))) 28 z (congrArg vB (andF r)) ?_)))
       exact nl (At.join () z (.cons z (.cons z (.cons z (.cons z (.cons z .nil))))))
     ·rintro _ _ rfl
      refine (show WL _ _ _ _ _ [(0, vu a0), (1, vu a1), (5, vu e), (6, vu j), (28, vB ((decide (9223372036854775808 ≤ a0)) && (decide (9223372036854775808 ≤ a1))))] _ from ?_)
      refine nl (th ?_)
      rcases cnd h with ⟨t, h⟩ | ⟨t, h⟩
      ·refine WC.condT' z t (sq (rg (wY (ym z) z (wY (ym z) z (wY (Y.gtr_u z z) z ?_)))))
       obtain ⟨am, S, h⟩ := lt1 h
       refine WL.yE (ya z) (congrArg vB S.symm) z (nl (th (rt (At.thenR ?_))))
       obtain rfl := some1 h
       have T : Stp [] (Lg.O0 (fun _ => False)) w m c := (tr_ (su_ l z) (su_ d z))
       exact At.res (.inl z) z (.tmp z .nil) ⟨z, (se_ T z z)⟩
      ·refine WC.condF' z t (sk (th (sq (sq (rg (wY (ym z) z (wY (Y.lss_u (b := 9223372036854775808) z z) z (wY (ym z) z ?_))))))))
       refine WL.cut 3 (σ := Unit) (fun _ w' => c = w') (fun _ => [(0, vu a0), (5, vu e), (6, vu j), (37, vB ((decide (a0 < 9223372036854775808)) && (decide (a1 < 9223372036854775808))))]) ?_ ?_
       ·refine WL.part 34 z (fun C => ?_) (fun C => ?_)
        ·refine ug z z (wY (ym z) z (ug z z (wY (Y.lss_u (b := 9223372036854775808) z z) z (wY (Y.pick (b := true) z z) z (WL.ren (v' := vB ((decide (a0 < 9223372036854775808)) && (decide (a1 < 9223372036854775808)))) 37 z (congrArg vB (andT C)) ?_)))))
         exact nl (At.join () z (.cons z (.cons z (.cons z (.cons z .nil)))))
        ·refine WL.gS z z z z (WL.gS z z z z (wY (Y.pick (b := false) z z) z (WL.ren (v' := vB ((decide (a0 < 9223372036854775808)) && (decide (a1 < 9223372036854775808)))) 37 z (congrArg vB (andF C)) ?_)))
         exact nl (At.join () z (.cons z (.cons z (.cons z (.cons z .nil)))))
       ·rintro _ _ rfl
        refine (show WL _ _ _ _ _ [(0, vu a0), (5, vu e), (6, vu j), (37, vB ((decide (a0 < 9223372036854775808)) && (decide (a1 < 9223372036854775808))))] _ from ?_)
        refine nl (th ?_)
        rcases cnd h with ⟨D, h⟩ | ⟨D, h⟩
        ·refine WC.condT' z D (sq (rg (wY (ym z) z (wY (ym z) z (wY (Y.lss_u z z) z ?_)))))
         obtain ⟨an, U, h⟩ := lt1 h
         refine WL.yE (ya z) (congrArg vB U.symm) z (nl (th (rt (At.thenR ?_))))
         obtain rfl := some1 h
         have V : Stp [] (Lg.O0 (fun _ => False)) w m c := (tr_ (su_ l z) (su_ d z))
         exact At.res (.inl z) z (.tmp z .nil) ⟨z, (se_ V z z)⟩
        ·refine WC.condF' z D (sk (th (sq (rg (wY (ym z) z (wY (Y.geq_u (b := 9223372036854775808) z z) z ?_))))))
         obtain ⟨ao, W, h⟩ := lt1 h
         refine WL.yE (ya z) (congrArg vB W.symm) z (nl (th (rt ?_)))
         obtain rfl := some1 h
         have X : Stp [] (Lg.O0 (fun _ => False)) w m c := (tr_ (su_ l z) (su_ d z))
         exact At.res (.inl z) z (.tmp z .nil) ⟨z, (se_ X z z)⟩
theorem c_ref12_Check {A : Nat → Prop} {v0_1 : Value} {v0_13 : Value} {v0_15 : Value} {a0 : api_Point} {w : World} (hs0_1 : Sl rep_api_Pair w A v0_1 a0.Attrs) (hs0_13 : Sl Rep.u w A v0_13 a0.Hist.Pos.Counts) (hs0_15 : Sl Rep.u w A v0_15 a0.Hist.Neg.Counts) {r0 : Int} (h : ref12_Check a0 = some r0) : Rets Try.prog 77 [ag [vs a0.Name, v0_1, vi a0.Kind, vi a0.Temp, vB a0.Mono, vi a0.Start, vi a0.Time, vi a0.Int_, vu a0.Re, vu a0.Im, vi a0.Hist.Scale, vu a0.Hist.Zero, vi a0.Hist.Pos.Offset, v0_13, vi a0.Hist.Neg.Offset, v0_15, vi a0.Flags]] w (fun v w' => v = vi r0 ∧ Ext w w') := by
 unfold ref12_Check at h
 refine Rets.enter Try.func77 z z ?_
 have aN : Sl rep_api_Pair w (imm (Lg.O0 A)) v0_1 a0.Attrs := (Sl.start hs0_1)
 have ad : Sl Rep.u w (imm (Lg.O0 A)) v0_13 a0.Hist.Pos.Counts := (Sl.start hs0_13)
 have ae : Sl Rep.u w (imm (Lg.O0 A)) v0_15 a0.Hist.Neg.Counts := (Sl.start hs0_15)
 refine (show WC _ _ _ _ [(0, ag [vs a0.Name, v0_1, vi a0.Kind, vi a0.Temp, vB a0.Mono, vi a0.Start, vi a0.Time, vi a0.Int_, vu a0.Re, vu a0.Im, vi a0.Hist.Scale, vu a0.Hist.Zero, vi a0.Hist.Pos.Offset, v0_13, vi a0.Hist.Neg.Offset, v0_15, vi a0.Flags])] _ from ?_)
 refine sq (rg ?_)
 have bn := h
 obtain ⟨bj, bk, bl, rfl⟩ := aN.shape
 have h := bn
 have bo := h
 obtain ⟨V, W, X, rfl⟩ := ad.shape
 have h := bo
 have bp := h
 obtain ⟨Z, aa, ab, rfl⟩ := ae.shape
 have h := bp
 refine WL.box (O := (Lg.O0 A)) 11 [vs a0.Name, (Value.slice bj bk bl), vi a0.Kind, vi a0.Temp, vB a0.Mono, vi a0.Start, vi a0.Time, vi a0.Int_, vu a0.Re, vu a0.Im, vi a0.Hist.Scale, vu a0.Hist.Zero, vi a0.Hist.Pos.Offset, (Value.slice V W X), vi a0.Hist.Neg.Offset, (Value.slice Z aa ab), vi a0.Flags] z z z ?_
 intro c bZ cf j af
 refine wY (ya z) z (nl (th (sq (sq (rg (wY (yf fo37_0 z) z (wY (yl ty9 z z (af.cell 0 _ z)) z (wY (yf fo37_1 z) z (wY (yl ty35 z z (af.cell 1 _ z)) z ?_)))))))))
 have bq := aN.i j z z
 obtain ⟨cl, br, h⟩ := bnd h
 refine WL.call (vals := [vs a0.Name, (Value.slice bj bk bl)]) kok98 z z (c_ref11_Check (A := fun _ => True) (Sl.all bq) br) ?_
 rintro cg e ⟨rfl, bs⟩
 obtain ⟨r, b0, b1, l⟩ := adoptE bZ (fun k => 1) bs
 refine wY (ya z) z (nl (th (sq (rg (wY (ym z) z (wY (Y.neq_i z z) z (nl (th ?_))))))))
 rcases cnd h with ⟨ah, h⟩ | ⟨ah, h⟩
 ·refine WC.condT' z ah (sq (rg (wY (ym z) z (wY (ya z) z (nl (th (rt (At.thenR ?_))))))))
  obtain rfl := some1 h
  have bt : Stp [] (Lg.O0 A) w r e := (tr_ (su_ j z) (su_ l z))
  exact At.res (.inl z) z (.tmp z .nil) ⟨z, (se_ bt z z)⟩
 ·refine WC.condF' z ah (sk (th (sq (sq (rg (wY (yf fo37_2 z) z ?_))))))
  have d := af.st l z
  refine wY (yl ty3 z z (d.cell 2 _ z)) z (wY (Y.lss_i z z) z (wY (ym z) z ?_))
  refine WL.cut 4 (σ := Unit) (fun _ w' => e = w') (fun _ => [(1, pt c 0), (19, vB ((decide (a0.Kind < 1)) || (decide (5 < a0.Kind))))]) ?_ ?_
  ·refine WL.part 15 z (fun ai => ?_) (fun ai => ?_)
   ·refine WL.gS z z z z (WL.gS z z z z (WL.gS z z z z (wY (Y.pick (b := true) z z) z (WL.ren (v' := vB ((decide (a0.Kind < 1)) || (decide (5 < a0.Kind)))) 19 z (congrArg vB (orT ai)) ?_))))
    exact nl (At.join () z (.cons z (.cons z .nil)))
   ·refine ug z z (wY (yf fo37_2 z) z (ug z z (wY (yl ty3 z z (d.cell 2 _ z)) z (ug z z (wY (Y.gtr_i z z) z (wY (Y.pick (b := false) z z) z (WL.ren (v' := vB ((decide (a0.Kind < 1)) || (decide (5 < a0.Kind)))) 19 z (congrArg vB (orF ai)) ?_)))))))
    exact nl (At.join () z (.cons z (.cons z .nil)))
  ·rintro _ _ rfl
   refine (show WL _ _ _ _ _ [(1, pt c 0), (19, vB ((decide (a0.Kind < 1)) || (decide (5 < a0.Kind))))] _ from ?_)
   refine nl (th ?_)
   rcases cnd h with ⟨aj, h⟩ | ⟨aj, h⟩
   ·refine WC.condT' z aj (sq (rg (wY (ya z) z (nl (th (rt (At.thenR ?_)))))))
    obtain rfl := some1 h
    have bu : Stp [] (Lg.O0 A) w r e := (tr_ (su_ j z) (su_ l z))
    exact At.res (.inl z) z (.tmp z .nil) ⟨z, (se_ bu z z)⟩
   ·refine WC.condF' z aj (sk (th (sq (sq (rg (wY (yf fo37_2 z) z (wY (yl ty3 z z (d.cell 2 _ z)) z (wY (Y.eql_i z z) z (wY (ym z) z ?_)))))))))
    refine WL.cut 4 (σ := Unit) (fun _ w' => e = w') (fun _ => [(1, pt c 0), (27, vB ((decide (a0.Kind = 3)) && (!decide (a0.Temp = 0))))]) ?_ ?_
    ·refine WL.part 23 z (fun ak => ?_) (fun ak => ?_)
     ·refine ug z z (wY (yf fo37_3 z) z (ug z z (wY (yl ty3 z z (d.cell 3 _ z)) z (ug z z (wY (Y.neq_i z z) z (wY (Y.pick (b := true) z z) z (WL.ren (v' := vB ((decide (a0.Kind = 3)) && (!decide (a0.Temp = 0)))) 27 z (congrArg vB (andT ak)) ?_)))))))
      exact nl (At.join () z (.cons z (.cons z .nil)))
     ·refine WL.gS z z z z (WL.gS z z z z (WL.gS z z z z (wY (Y.pick (b := false) z z) z (WL.ren (v' := vB ((decide (a0.Kind = 3)) && (!decide (a0.Temp = 0)))) 27 z (congrArg vB (andF ak)) ?_))))
      exact nl (At.join () z (.cons z (.cons z .nil)))
    ·rintro _ _ rfl
     refine (show WL _ _ _ _ _ [(1, pt c 0), (27, vB ((decide (a0.Kind = 3)) && (!decide (a0.Temp = 0))))] _ from ?_)
     refine wY (ym z) z ?_
     refine WL.cut 14 (σ := Unit) (fun _ w' => e = w') (fun _ => [(1, pt c 0), (42, vB (((decide (a0.Kind = 3)) && (!decide (a0.Temp = 0))) || (((!decide (a0.Kind = 3)) && (!decide (a0.Temp = 1))) && (!decide (a0.Temp = 2)))))]) ?_ ?_
     ·refine WL.part 28 z (fun al => ?_) (fun al => ?_)
      ·refine WL.gS z z z z (WL.gS z z z z (WL.gS z z z z (WL.gS z z z z (WL.gS z z z z (WL.gS z z z z (WL.gS z z z z (WL.gS z z z z (WL.gS z z z z (WL.gS z z z z ?_)))))))))
       refine WL.gS z z z z (WL.gS z z z z (WL.gS z z z z (wY (Y.pick (b := true) z z) z (WL.ren (v' := vB (((decide (a0.Kind = 3)) && (!decide (a0.Temp = 0))) || (((!decide (a0.Kind = 3)) && (!decide (a0.Temp = 1))) && (!decide (a0.Temp = 2))))) 42 z (congrArg vB (orT al)) ?_))))
       exact nl (At.join () z (.cons z (.cons z .nil)))
      ·refine ug z z (wY (yf fo37_2 z) z (ug z z (wY (yl ty3 z z (d.cell 2 _ z)) z (ug z z (wY (Y.neq_i z z) z (ug z z (wY (ym z) z ?_)))))))
       refine WL.cut 4 (σ := Unit) (fun _ w' => e = w') (fun _ => [(1, pt c 0), (28, vB false), (36, vB ((!decide (a0.Kind = 3)) && (!decide (a0.Temp = 1))))]) ?_ ?_
       ·refine WL.part 32 z (fun am => ?_) (fun am => ?_)
        ·refine ug z z (wY (yf fo37_3 z) z (ug z z (wY (yl ty3 z z (d.cell 3 _ z)) z (ug z z (wY (Y.neq_i z z) z (ug z z (wY (Y.pick (b := true) z z) z (WL.ren (v' := vB ((!decide (a0.Kind = 3)) && (!decide (a0.Temp = 1)))) 36 z (congrArg vB (andT am)) ?_))))))))
         exact nl (At.join () z (.cons z (.cons z (.cons z .nil))))
        ·refine WL.gS z z z z (WL.gS z z z z (WL.gS z z z z (ug z z (wY (Y.pick (b := false) z z) z (WL.ren (v' := vB ((!decide (a0.Kind = 3)) && (!decide (a0.Temp = 1)))) 36 z (congrArg vB (andF am)) ?_)))))
         exact nl (At.join () z (.cons z (.cons z (.cons z .nil))))
       ·rintro _ _ rfl
        refine (show WL _ _ _ _ _ [(1, pt c 0), (28, vB false), (36, vB ((!decide (a0.Kind = 3)) && (!decide (a0.Temp = 1))))] _ from ?_)
        refine ug z z (wY (ym z) z ?_)
        refine WL.cut 4 (σ := Unit) (fun _ w' => e = w') (fun _ => [(1, pt c 0), (28, vB false), (41, vB (((!decide (a0.Kind = 3)) && (!decide (a0.Temp = 1))) && (!decide (a0.Temp = 2))))]) ?_ ?_
        ·refine WL.part 37 z (fun an => ?_) (fun an => ?_)
         ·refine ug z z (wY (yf fo37_3 z) z (ug z z (wY (yl ty3 z z (d.cell 3 _ z)) z (ug z z (wY (Y.neq_i z z) z (ug z z (wY (Y.pick (b := true) z z) z (WL.ren (v' := vB (((!decide (a0.Kind = 3)) && (!decide (a0.Temp = 1))) && (!decide (a0.Temp = 2)))) 41 z (congrArg vB (andT an)) ?_))))))))
          exact nl (At.join () z (.cons z (.cons z (.cons z .nil))))
         ·refine WL.gS z z z z (WL.gS z z z z (WL.gS z z z z (ug z z (wY (Y.pick (b := false) z z) z (WL.ren (v' := vB (((!decide (a0.Kind = 3)) && (!decide (a0.Temp = 1))) && (!decide (a0.Temp = 2)))) 41 z (congrArg vB (andF an)) ?_)))))
          exact nl (At.join () z (.cons z (.cons z (.cons z .nil))))
        ·rintro _ _ rfl
         refine (show WL _ _ _ _ _ [(1, pt c 0), (28, vB false), (41, vB (((!decide (a0.Kind = 3)) && (!decide (a0.Temp = 1))) && (!decide (a0.Temp = 2))))] _ from ?_)
         refine wY (Y.pick (b := false) z z) z (WL.ren (v' := vB (((decide (a0.Kind = 3)) && (!decide (a0.Temp = 0))) || (((!decide (a0.Kind = 3)) && (!decide (a0.Temp = 1))) && (!decide (a0.Temp = 2))))) 42 z (congrArg vB (orF al)) ?_)
         exact nl (At.join () z (.cons z (.cons z .nil)))
     ·rintro _ _ rfl
      refine (show WL _ _ _ _ _ [(1, pt c 0), (42, vB (((decide (a0.Kind = 3)) && (!decide (a0.Temp = 0))) || (((!decide (a0.Kind = 3)) && (!decide (a0.Temp = 1))) && (!decide (a0.Temp = 2)))))] _ from ?_)
      refine nl (th ?_)
      rcases cnd h with ⟨ao, h⟩ | ⟨ao, h⟩
      ·refine WC.condT' z ao (sq (rg (wY (ya z) z (nl (th (rt (At.thenR ?_)))))))
       obtain rfl := some1 h
       have bw : Stp [] (Lg.O0 A) w r e := (tr_ (su_ j z) (su_ l z))
       exact At.res (.inl z) z (.tmp z .nil) ⟨z, (se_ bw z z)⟩
      ·refine WC.condF' z ao (sk (th (sq (sq (rg (wY (yf fo37_4 z) z (wY (yl ty4 z z (d.cell 4 _ z)) z (wY (ym z) z ?_))))))))
       refine WL.cut 4 (σ := Unit) (fun _ w' => e = w') (fun _ => [(1, pt c 0), (49, vB (a0.Mono && (!decide (a0.Kind = 1))))]) ?_ ?_
       ·refine WL.part 45 z (fun ap => ?_) (fun ap => ?_)
        ·refine ug z z (wY (yf fo37_2 z) z (ug z z (wY (yl ty3 z z (d.cell 2 _ z)) z (ug z z (wY (Y.neq_i z z) z (wY (Y.pick (b := true) z z) z (WL.ren (v' := vB (a0.Mono && (!decide (a0.Kind = 1)))) 49 z (congrArg vB (andT ap)) ?_)))))))
         exact nl (At.join () z (.cons z (.cons z .nil)))
        ·refine WL.gS z z z z (WL.gS z z z z (WL.gS z z z z (wY (Y.pick (b := false) z z) z (WL.ren (v' := vB (a0.Mono && (!decide (a0.Kind = 1)))) 49 z (congrArg vB (andF ap)) ?_))))
         exact nl (At.join () z (.cons z (.cons z .nil)))
       ·rintro _ _ rfl
        refine (show WL _ _ _ _ _ [(1, pt c 0), (49, vB (a0.Mono && (!decide (a0.Kind = 1))))] _ from ?_)
        refine wY (ym z) z ?_
        refine WL.cut 4 (σ := Unit) (fun _ w' => e = w') (fun _ => [(1, pt c 0), (54, vB ((a0.Mono && (!decide (a0.Kind = 1))) && (!decide (a0.Kind = 2))))]) ?_ ?_
        ·refine WL.part 50 z (fun aq => ?_) (fun aq => ?_)
         ·refine ug z z (wY (yf fo37_2 z) z (ug z z (wY (yl ty3 z z (d.cell 2 _ z)) z (ug z z (wY (Y.neq_i z z) z (wY (Y.pick (b := true) z z) z (WL.ren (v' := vB ((a0.Mono && (!decide (a0.Kind = 1))) && (!decide (a0.Kind = 2)))) 54 z (congrArg vB (andT aq)) ?_)))))))
          exact nl (At.join () z (.cons z (.cons z .nil)))
         ·refine WL.gS z z z z (WL.gS z z z z (WL.gS z z z z (wY (Y.pick (b := false) z z) z (WL.ren (v' := vB ((a0.Mono && (!decide (a0.Kind = 1))) && (!decide (a0.Kind = 2)))) 54 z (congrArg vB (andF aq)) ?_))))
          exact nl (At.join () z (.cons z (.cons z .nil)))
        ·rintro _ _ rfl
         refine (show WL _ _ _ _ _ [(1, pt c 0), (54, vB ((a0.Mono && (!decide (a0.Kind = 1))) && (!decide (a0.Kind = 2))))] _ from ?_)
         refine nl (th ?_)
         rcases cnd h with ⟨ar, h⟩ | ⟨ar, h⟩
         ·refine WC.condT' z ar (sq (rg (wY (ya z) z (nl (th (rt (At.thenR ?_)))))))
          obtain rfl := some1 h
          have bx : Stp [] (Lg.O0 A) w r e := (tr_ (su_ j z) (su_ l z))
          exact At.res (.inl z) z (.tmp z .nil) ⟨z, (se_ bx z z)⟩
         ·refine WC.condF' z ar (sk (th (sq (sq (rg (wY (yf fo37_5 z) z (wY (yl ty3 z z (d.cell 5 _ z)) z (wY (Y.lss_i z z) z (wY (ym z) z ?_)))))))))
          refine WL.cut 4 (σ := Unit) (fun _ w' => e = w') (fun _ => [(1, pt c 0), (62, vB ((decide (a0.Start < 0)) || (decide (4503599627370496 < a0.Time))))]) ?_ ?_
          ·refine WL.part 58 z (fun au => ?_) (fun au => ?_)
           ·refine WL.gS z z z z (WL.gS z z z z (WL.gS z z z z (wY (Y.pick (b := true) z z) z (WL.ren (v' := vB ((decide (a0.Start < 0)) || (decide (4503599627370496 < a0.Time)))) 62 z (congrArg vB (orT au)) ?_))))
            exact nl (At.join () z (.cons z (.cons z .nil)))
           ·refine ug z z (wY (yf fo37_6 z) z (ug z z (wY (yl ty3 z z (d.cell 6 _ z)) z (ug z z (wY (Y.gtr_i z z) z (wY (Y.pick (b := false) z z) z (WL.ren (v' := vB ((decide (a0.Start < 0)) || (decide (4503599627370496 < a0.Time)))) 62 z (congrArg vB (orF au)) ?_)))))))
            exact nl (At.join () z (.cons z (.cons z .nil)))
          ·rintro _ _ rfl
           refine (show WL _ _ _ _ _ [(1, pt c 0), (62, vB ((decide (a0.Start < 0)) || (decide (4503599627370496 < a0.Time))))] _ from ?_)
           refine wY (ym z) z ?_
           refine WL.cut 11 (σ := Unit) (fun _ w' => e = w') (fun _ => [(1, pt c 0), (74, vB (((decide (a0.Start < 0)) || (decide (4503599627370496 < a0.Time))) || ((decide (a0.Kind = 3)) && (!decide (a0.Start = a0.Time)))))]) ?_ ?_
           ·refine WL.part 63 z (fun av => ?_) (fun av => ?_)
            ·refine WL.gS z z z z (WL.gS z z z z (WL.gS z z z z (WL.gS z z z z (WL.gS z z z z (WL.gS z z z z (WL.gS z z z z (WL.gS z z z z (WL.gS z z z z (WL.gS z z z z ?_)))))))))
             refine wY (Y.pick (b := true) z z) z (WL.ren (v' := vB (((decide (a0.Start < 0)) || (decide (4503599627370496 < a0.Time))) || ((decide (a0.Kind = 3)) && (!decide (a0.Start = a0.Time))))) 74 z (congrArg vB (orT av)) ?_)
             exact nl (At.join () z (.cons z (.cons z .nil)))
            ·refine ug z z (wY (yf fo37_2 z) z (ug z z (wY (yl ty3 z z (d.cell 2 _ z)) z (ug z z (wY (Y.eql_i z z) z (ug z z (wY (ym z) z ?_)))))))
             refine WL.cut 6 (σ := Unit) (fun _ w' => e = w') (fun _ => [(1, pt c 0), (63, vB false), (73, vB ((decide (a0.Kind = 3)) && (!decide (a0.Start = a0.Time))))]) ?_ ?_
             ·refine WL.part 67 z (fun aw => ?_) (fun aw => ?_)
              ·refine ug z z (wY (yf fo37_5 z) z (ug z z (wY (yl ty3 z z (d.cell 5 _ z)) z (ug z z (wY (yf fo37_6 z) z (ug z z (wY (yl ty3 z z (d.cell 6 _ z)) z (ug z z (wY (Y.neq_i z z) z ?_)))))))))
               refine ug z z (wY (Y.pick (b := true) z z) z (WL.ren (v' := vB ((decide (a0.Kind = 3)) && (!decide (a0.Start = a0.Time)))) 73 z (congrArg vB (andT aw)) ?_))
               exact nl (At.join () z (.cons z (.cons z (.cons z .nil))))
              ·refine WL.gS z z z z (WL.gS z z z z (WL.gS z z z z (WL.gS z z z z (WL.gS z z z z (ug z z (wY (Y.pick (b := false) z z) z (WL.ren (v' := vB ((decide (a0.Kind = 3)) && (!decide (a0.Start = a0.Time)))) 73 z (congrArg vB (andF aw)) ?_)))))))
               exact nl (At.join () z (.cons z (.cons z (.cons z .nil))))
             ·rintro _ _ rfl
              refine (show WL _ _ _ _ _ [(1, pt c 0), (63, vB false), (73, vB ((decide (a0.Kind = 3)) && (!decide (a0.Start = a0.Time))))] _ from ?_)
              refine wY (Y.pick (b := false) z z) z (WL.ren (v' := vB (((decide (a0.Start < 0)) || (decide (4503599627370496 < a0.Time))) || ((decide (a0.Kind = 3)) && (!decide (a0.Start = a0.Time))))) 74 z (congrArg vB (orF av)) ?_)
              exact nl (At.join () z (.cons z (.cons z .nil)))
           ·rintro _ _ rfl
            refine (show WL _ _ _ _ _ [(1, pt c 0), (74, vB (((decide (a0.Start < 0)) || (decide (4503599627370496 < a0.Time))) || ((decide (a0.Kind = 3)) && (!decide (a0.Start = a0.Time)))))] _ from ?_)
            refine wY (ym z) z ?_
            refine WL.cut 11 (σ := Unit) (fun _ w' => e = w') (fun _ => [(1, pt c 0), (86, vB ((((decide (a0.Start < 0)) || (decide (4503599627370496 < a0.Time))) || ((decide (a0.Kind = 3)) && (!decide (a0.Start = a0.Time)))) || ((!decide (a0.Kind = 3)) && (decide (a0.Time ≤ a0.Start)))))]) ?_ ?_
            ·refine WL.part 75 z (fun ax => ?_) (fun ax => ?_)
             ·refine WL.gS z z z z (WL.gS z z z z (WL.gS z z z z (WL.gS z z z z (WL.gS z z z z (WL.gS z z z z (WL.gS z z z z (WL.gS z z z z (WL.gS z z z z (WL.gS z z z z ?_)))))))))
              refine wY (Y.pick (b := true) z z) z (WL.ren (v' := vB ((((decide (a0.Start < 0)) || (decide (4503599627370496 < a0.Time))) || ((decide (a0.Kind = 3)) && (!decide (a0.Start = a0.Time)))) || ((!decide (a0.Kind = 3)) && (decide (a0.Time ≤ a0.Start))))) 86 z (congrArg vB (orT ax)) ?_)
              exact nl (At.join () z (.cons z (.cons z .nil)))
             ·refine ug z z (wY (yf fo37_2 z) z (ug z z (wY (yl ty3 z z (d.cell 2 _ z)) z (ug z z (wY (Y.neq_i z z) z (ug z z (wY (ym z) z ?_)))))))
              refine WL.cut 6 (σ := Unit) (fun _ w' => e = w') (fun _ => [(1, pt c 0), (75, vB false), (85, vB ((!decide (a0.Kind = 3)) && (decide (a0.Time ≤ a0.Start))))]) ?_ ?_
              ·refine WL.part 79 z (fun ay => ?_) (fun ay => ?_)
               ·refine ug z z (wY (yf fo37_5 z) z (ug z z (wY (yl ty3 z z (d.cell 5 _ z)) z (ug z z (wY (yf fo37_6 z) z (ug z z (wY (yl ty3 z z (d.cell 6 _ z)) z (ug z z (wY (Y.geq_i z z) z ?_)))))))))
                refine ug z z (wY (Y.pick (b := true) z z) z (WL.ren (v' := vB ((!decide (a0.Kind = 3)) && (decide (a0.Time ≤ a0.Start)))) 85 z (congrArg vB (andT ay)) ?_))
                exact nl (At.join () z (.cons z (.cons z (.cons z .nil))))
               ·refine WL.gS z z z z (WL.gS z z z z (WL.gS z z z z (WL.gS z z z z (WL.gS z z z z (ug z z (wY (Y.pick (b := false) z z) z (WL.ren (v' := vB ((!decide (a0.Kind = 3)) && (decide (a0.Time ≤ a0.Start)))) 85 z (congrArg vB (andF ay)) ?_)))))))
                exact nl (At.join () z (.cons z (.cons z (.cons z .nil))))
              ·rintro _ _ rfl
               refine (show WL _ _ _ _ _ [(1, pt c 0), (75, vB false), (85, vB ((!decide (a0.Kind = 3)) && (decide (a0.Time ≤ a0.Start))))] _ from ?_)
               refine wY (Y.pick (b := false) z z) z (WL.ren (v' := vB ((((decide (a0.Start < 0)) || (decide (4503599627370496 < a0.Time))) || ((decide (a0.Kind = 3)) && (!decide (a0.Start = a0.Time)))) || ((!decide (a0.Kind = 3)) && (decide (a0.Time ≤ a0.Start))))) 86 z (congrArg vB (orF ax)) ?_)
               exact nl (At.join () z (.cons z (.cons z .nil)))
            ·rintro _ _ rfl
             refine (show WL _ _ _ _ _ [(1, pt c 0), (86, vB ((((decide (a0.Start < 0)) || (decide (4503599627370496 < a0.Time))) || ((decide (a0.Kind = 3)) && (!decide (a0.Start = a0.Time)))) || ((!decide (a0.Kind = 3)) && (decide (a0.Time ≤ a0.Start)))))] _ from ?_)
             refine nl (th ?_)
             rcases cnd h with ⟨az, h⟩ | ⟨az, h⟩
             ·refine WC.condT' z az (sq (rg (wY (ya z) z (nl (th (rt (At.thenR ?_)))))))
              obtain rfl := some1 h
              have bz : Stp [] (Lg.O0 A) w r e := (tr_ (su_ j z) (su_ l z))
              exact At.res (.inl z) z (.tmp z .nil) ⟨z, (se_ bz z z)⟩
             ·refine WC.condF' z az (sk (th (sq (sq (rg (wY (yf fo37_2 z) z (wY (yl ty3 z z (d.cell 2 _ z)) z (wY (Y.neq_i z z) z (wY (ym z) z ?_)))))))))
              refine WL.cut 4 (σ := Unit) (fun _ w' => e = w') (fun _ => [(1, pt c 0), (94, vB ((!decide (a0.Kind = 1)) && (!decide (a0.Int_ = 0))))]) ?_ ?_
              ·refine WL.part 90 z (fun aA => ?_) (fun aA => ?_)
               ·refine ug z z (wY (yf fo37_7 z) z (ug z z (wY (yl ty3 z z (d.cell 7 _ z)) z (ug z z (wY (Y.neq_i z z) z (wY (Y.pick (b := true) z z) z (WL.ren (v' := vB ((!decide (a0.Kind = 1)) && (!decide (a0.Int_ = 0)))) 94 z (congrArg vB (andT aA)) ?_)))))))
                exact nl (At.join () z (.cons z (.cons z .nil)))
               ·refine WL.gS z z z z (WL.gS z z z z (WL.gS z z z z (wY (Y.pick (b := false) z z) z (WL.ren (v' := vB ((!decide (a0.Kind = 1)) && (!decide (a0.Int_ = 0)))) 94 z (congrArg vB (andF aA)) ?_))))
                exact nl (At.join () z (.cons z (.cons z .nil)))
              ·rintro _ _ rfl
               refine (show WL _ _ _ _ _ [(1, pt c 0), (94, vB ((!decide (a0.Kind = 1)) && (!decide (a0.Int_ = 0))))] _ from ?_)
               refine wY (ym z) z ?_
               refine WL.cut 9 (σ := Unit) (fun _ w' => e = w') (fun _ => [(1, pt c 0), (104, vB (((!decide (a0.Kind = 1)) && (!decide (a0.Int_ = 0))) || ((!decide (a0.Kind = 5)) && (!decide (a0.Im = 0)))))]) ?_ ?_
               ·refine WL.part 95 z (fun aC => ?_) (fun aC => ?_)
                ·refine WL.gS z z z z (WL.gS z z z z (WL.gS z z z z (WL.gS z z z z (WL.gS z z z z (WL.gS z z z z (WL.gS z z z z (WL.gS z z z z (wY (Y.pick (b := true) z z) z (WL.ren (v' := vB (((!decide (a0.Kind = 1)) && (!decide (a0.Int_ = 0))) || ((!decide (a0.Kind = 5)) && (!decide (a0.Im = 0))))) 104 z (congrArg vB (orT aC)) ?_)))))))))
                 exact nl (At.join () z (.cons z (.cons z .nil)))
                ·refine ug z z (wY (yf fo37_2 z) z (ug z z (wY (yl ty3 z z (d.cell 2 _ z)) z (ug z z (wY (Y.neq_i z z) z (ug z z (wY (ym z) z ?_)))))))
                 refine WL.cut 4 (σ := Unit) (fun _ w' => e = w') (fun _ => [(1, pt c 0), (95, vB false), (103, vB ((!decide (a0.Kind = 5)) && (!decide (a0.Im = 0))))]) ?_ ?_
                 ·refine WL.part 99 z (fun aD => ?_) (fun aD => ?_)
                  ·refine ug z z (wY (yf fo37_9 z) z (ug z z (wY (yl ty25 z z (d.cell 9 _ z)) z (ug z z (wY (Y.neq_u (b := 0) z z) z (ug z z (wY (Y.pick (b := true) z z) z (WL.ren (v' := vB ((!decide (a0.Kind = 5)) && (!decide (a0.Im = 0)))) 103 z (congrArg vB (andT aD)) ?_))))))))
                   exact nl (At.join () z (.cons z (.cons z (.cons z .nil))))
                  ·refine WL.gS z z z z (WL.gS z z z z (WL.gS z z z z (ug z z (wY (Y.pick (b := false) z z) z (WL.ren (v' := vB ((!decide (a0.Kind = 5)) && (!decide (a0.Im = 0)))) 103 z (congrArg vB (andF aD)) ?_)))))
                   exact nl (At.join () z (.cons z (.cons z (.cons z .nil))))
                 ·rintro _ _ rfl
                  refine (show WL _ _ _ _ _ [(1, pt c 0), (95, vB false), (103, vB ((!decide (a0.Kind = 5)) && (!decide (a0.Im = 0))))] _ from ?_)
                  refine wY (Y.pick (b := false) z z) z (WL.ren (v' := vB (((!decide (a0.Kind = 1)) && (!decide (a0.Int_ = 0))) || ((!decide (a0.Kind = 5)) && (!decide (a0.Im = 0))))) 104 z (congrArg vB (orF aC)) ?_)
                  exact nl (At.join () z (.cons z (.cons z .nil)))
               ·rintro _ _ rfl
                refine (show WL _ _ _ _ _ [(1, pt c 0), (104, vB (((!decide (a0.Kind = 1)) && (!decide (a0.Int_ = 0))) || ((!decide (a0.Kind = 5)) && (!decide (a0.Im = 0)))))] _ from ?_)
                refine wY (ym z) z ?_
                obtain ⟨b2, h, bA⟩ := bnd h
                refine WL.cut 10 (σ := (Bool × Own)) (fun x w' => x.1 = b2 ∧ Stp [] r e x.2 w') (fun x => [(1, pt c 0), (115, vB x.1)]) ?_ ?_
                ·rcases cnd h with ⟨aE, h⟩ | ⟨aE, h⟩
                 ·refine WL.ren 105 z (congrArg vB aE) (WL.gS z z z z (WL.gS z z z z (WL.gS z z z z (WL.gS z z z z (WL.gS z z z z (WL.gS z z z z (WL.gS z z z z (WL.gS z z z z (WL.gS z z z z ?_)))))))))
                  refine wY (Y.pick (b := true) z z) z ?_
                  exact nl (At.join (σ := (Bool × Own)) (true, r) ⟨some1 h, (sr_ _ _ _)⟩ (.cons z (.cons z .nil)))
                 ·refine WL.ren 105 z (congrArg vB aE) (ug z z (wY (yf fo37_2 z) z (ug z z (wY (yl ty3 z z (d.cell 2 _ z)) z (ug z z (wY (Y.neq_i z z) z (ug z z (wY (ym z) z ?_))))))))
                  obtain ⟨b3, h, bB⟩ := bnd h
                  refine WL.cut 5 (σ := (Bool × Own)) (fun x w' => x.1 = b3 ∧ Stp [] r e x.2 w') (fun x => [(1, pt c 0), (105, vB false), (114, vB x.1)]) ?_ ?_
                  ·rcases cnd h with ⟨aF, h⟩ | ⟨aF, h⟩
                   ·refine WL.ren 109 z (congrArg vB aF) (ug z z (wY (yf fo37_10 z) z (ug z z (wY (yL ty30 z z (d.cells 10 [vi a0.Hist.Scale, vu a0.Hist.Zero, vi a0.Hist.Pos.Offset, (Value.slice V W X), vi a0.Hist.Neg.Offset, (Value.slice Z aa ab)] z) z) z (ug z z ?_)))))
                    have bC := ad.i j z z
                    have bD := bC.i l z z
                    have bE := ae.i j z z
                    have bF := bE.i l z z
                    obtain ⟨b4, bG, h⟩ := bnd h
                    refine WL.call (vals := [ag [vi a0.Hist.Scale, vu a0.Hist.Zero, vi a0.Hist.Pos.Offset, (Value.slice V W X), vi a0.Hist.Neg.Offset, (Value.slice Z aa ab)]]) kok99 z z (c_ref12_none (A := fun _ => True) (a0 := a0.Hist) (Sl.all bD) (Sl.all bF) bG) ?_
                    rintro ch ci ⟨rfl, bH⟩
                    obtain ⟨b5, b6, b7, aR⟩ := adoptE r (fun k => 1) bH
                    refine ug z z (wY (Y.not z) z (ug z z (wY (Y.pick (b := true) z z) z ?_)))
                    exact nl (At.join (σ := (Bool × Own)) ((!b4), b5) ⟨some1 h, (su_ aR z)⟩ (.cons z (.cons z (.cons z .nil))))
                   ·refine WL.ren 109 z (congrArg vB aF) (WL.gS z z z z (WL.gS z z z z (WL.gS z z z z (WL.gS z z z z (ug z z (wY (Y.pick (b := false) z z) z ?_))))))
                    exact nl (At.join (σ := (Bool × Own)) (false, r) ⟨some1 h, (sr_ _ _ _)⟩ (.cons z (.cons z (.cons z .nil))))
                  ·rintro ⟨bm, b8⟩ cj ⟨rfl, aL⟩
                   replace h := bB
                   try dsimp only at h aL
                   refine (show WL _ _ _ _ _ [(1, pt c 0), (105, vB false), (114, vB bm)] _ from ?_)
                   refine wY (Y.pick (b := false) z z) z ?_
                   exact nl (At.join (σ := (Bool × Own)) (bm, b8) ⟨some1 h, (su_ aL z)⟩ (.cons z (.cons z .nil)))
                ·rintro ⟨b9, ac⟩ q ⟨rfl, m⟩
                 replace h := bA
                 try dsimp only at h m
                 refine (show WL _ _ _ _ _ [(1, pt c 0), (115, vB b9)] _ from ?_)
                 refine nl (th ?_)
                 rcases cnd h with ⟨aG, h⟩ | ⟨aG, h⟩
                 ·refine WC.condT' z aG (sq (rg (wY (ya z) z (nl (th (rt (At.thenR ?_)))))))
                  obtain rfl := some1 h
                  have bI : Stp [] (Lg.O0 A) w ac q := (tr_ (su_ j z) (tr_ (su_ l z) (su_ m z)))
                  exact At.res (.inl z) z (.tmp z .nil) ⟨z, (se_ bI z z)⟩
                 ·refine WC.condF' z aG (sk (th (sq (sq (rg (wY (yf fo37_2 z) z ?_))))))
                  have p := d.st m z
                  refine wY (yl ty3 z z (p.cell 2 _ z)) z (wY (Y.eql_i z z) z (wY (ym z) z ?_))
                  refine WL.cut 4 (σ := Unit) (fun _ w' => q = w') (fun _ => [(1, pt c 0), (123, vB ((decide (a0.Kind = 1)) || (decide (a0.Kind = 4))))]) ?_ ?_
                  ·refine WL.part 119 z (fun aH => ?_) (fun aH => ?_)
                   ·refine WL.gS z z z z (WL.gS z z z z (WL.gS z z z z (wY (Y.pick (b := true) z z) z (WL.ren (v' := vB ((decide (a0.Kind = 1)) || (decide (a0.Kind = 4)))) 123 z (congrArg vB (orT aH)) ?_))))
                    exact nl (At.join () z (.cons z (.cons z .nil)))
                   ·refine ug z z (wY (yf fo37_2 z) z (ug z z (wY (yl ty3 z z (p.cell 2 _ z)) z (ug z z (wY (Y.eql_i z z) z (wY (Y.pick (b := false) z z) z (WL.ren (v' := vB ((decide (a0.Kind = 1)) || (decide (a0.Kind = 4)))) 123 z (congrArg vB (orF aH)) ?_)))))))
                    exact nl (At.join () z (.cons z (.cons z .nil)))
                  ·rintro _ _ rfl
                   refine (show WL _ _ _ _ _ [(1, pt c 0), (123, vB ((decide (a0.Kind = 1)) || (decide (a0.Kind = 4))))] _ from ?_)
                   refine wY (ym z) z ?_
                   refine WL.cut 4 (σ := Unit) (fun _ w' => q = w') (fun _ => [(1, pt c 0), (128, vB (((decide (a0.Kind = 1)) || (decide (a0.Kind = 4))) && (!decide (a0.Re = 0))))]) ?_ ?_
                   ·refine WL.part 124 z (fun aI => ?_) (fun aI => ?_)
                    ·refine ug z z (wY (yf fo37_8 z) z (ug z z (wY (yl ty25 z z (p.cell 8 _ z)) z (ug z z (wY (Y.neq_u (b := 0) z z) z (wY (Y.pick (b := true) z z) z (WL.ren (v' := vB (((decide (a0.Kind = 1)) || (decide (a0.Kind = 4))) && (!decide (a0.Re = 0)))) 128 z (congrArg vB (andT aI)) ?_)))))))
                     exact nl (At.join () z (.cons z (.cons z .nil)))
                    ·refine WL.gS z z z z (WL.gS z z z z (WL.gS z z z z (wY (Y.pick (b := false) z z) z (WL.ren (v' := vB (((decide (a0.Kind = 1)) || (decide (a0.Kind = 4))) && (!decide (a0.Re = 0)))) 128 z (congrArg vB (andF aI)) ?_))))
                     exact nl (At.join () z (.cons z (.cons z .nil)))
                   ·rintro _ _ rfl
                    refine (show WL _ _ _ _ _ [(1, pt c 0), (128, vB (((decide (a0.Kind = 1)) || (decide (a0.Kind = 4))) && (!decide (a0.Re = 0))))] _ from ?_)
                    refine wY (ym z) z ?_
                    refine WL.cut 4 (σ := Unit) (fun _ w' => q = w') (fun _ => [(1, pt c 0), (133, vB ((((decide (a0.Kind = 1)) || (decide (a0.Kind = 4))) && (!decide (a0.Re = 0))) || (decide (a0.Flags < 0))))]) ?_ ?_
                    ·refine WL.part 129 z (fun aJ => ?_) (fun aJ => ?_)
                     ·refine WL.gS z z z z (WL.gS z z z z (WL.gS z z z z (wY (Y.pick (b := true) z z) z (WL.ren (v' := vB ((((decide (a0.Kind = 1)) || (decide (a0.Kind = 4))) && (!decide (a0.Re = 0))) || (decide (a0.Flags < 0)))) 133 z (congrArg vB (orT aJ)) ?_))))
                      exact nl (At.join () z (.cons z (.cons z .nil)))
                     ·refine ug z z (wY (yf fo37_11 z) z (ug z z (wY (yl ty3 z z (p.cell 16 _ z)) z (ug z z (wY (Y.lss_i z z) z (wY (Y.pick (b := false) z z) z (WL.ren (v' := vB ((((decide (a0.Kind = 1)) || (decide (a0.Kind = 4))) && (!decide (a0.Re = 0))) || (decide (a0.Flags < 0)))) 133 z (congrArg vB (orF aJ)) ?_)))))))
                      exact nl (At.join () z (.cons z (.cons z .nil)))
                    ·rintro _ _ rfl
                     refine (show WL _ _ _ _ _ [(1, pt c 0), (133, vB ((((decide (a0.Kind = 1)) || (decide (a0.Kind = 4))) && (!decide (a0.Re = 0))) || (decide (a0.Flags < 0))))] _ from ?_)
                     refine wY (ym z) z ?_
                     refine WL.cut 4 (σ := Unit) (fun _ w' => q = w') (fun _ => [(1, pt c 0), (138, vB (((((decide (a0.Kind = 1)) || (decide (a0.Kind = 4))) && (!decide (a0.Re = 0))) || (decide (a0.Flags < 0))) || (decide (31 < a0.Flags))))]) ?_ ?_
                     ·refine WL.part 134 z (fun E => ?_) (fun E => ?_)
                      ·refine WL.gS z z z z (WL.gS z z z z (WL.gS z z z z (wY (Y.pick (b := true) z z) z (WL.ren (v' := vB (((((decide (a0.Kind = 1)) || (decide (a0.Kind = 4))) && (!decide (a0.Re = 0))) || (decide (a0.Flags < 0))) || (decide (31 < a0.Flags)))) 138 z (congrArg vB (orT E)) ?_))))
                       exact nl (At.join () z (.cons z (.cons z .nil)))
                      ·refine ug z z (wY (yf fo37_11 z) z (ug z z (wY (yl ty3 z z (p.cell 16 _ z)) z (ug z z (wY (Y.gtr_i z z) z (wY (Y.pick (b := false) z z) z (WL.ren (v' := vB (((((decide (a0.Kind = 1)) || (decide (a0.Kind = 4))) && (!decide (a0.Re = 0))) || (decide (a0.Flags < 0))) || (decide (31 < a0.Flags)))) 138 z (congrArg vB (orF E)) ?_)))))))
                       exact nl (At.join () z (.cons z (.cons z .nil)))
                     ·rintro _ _ rfl
                      refine (show WL _ _ _ _ _ [(1, pt c 0), (138, vB (((((decide (a0.Kind = 1)) || (decide (a0.Kind = 4))) && (!decide (a0.Re = 0))) || (decide (a0.Flags < 0))) || (decide (31 < a0.Flags))))] _ from ?_)
                      refine nl (th ?_)
                      rcases cnd h with ⟨F, h⟩ | ⟨F, h⟩
                      ·refine WC.condT' z F (sq (rg (wY (ya z) z (nl (th (rt (At.thenR ?_)))))))
                       obtain rfl := some1 h
                       have aS : Stp [] (Lg.O0 A) w ac q := (tr_ (su_ j z) (tr_ (su_ l z) (su_ m z)))
                       exact At.res (.inl z) z (.tmp z .nil) ⟨z, (se_ aS z z)⟩
                      ·refine WC.condF' z F (sk (th (sq (sq (rg (wY (yf fo37_4 z) z (wY (yl ty4 z z (p.cell 4 _ z)) z (wY (ym z) z ?_))))))))
                       refine WL.cut 4 (σ := Unit) (fun _ w' => q = w') (fun _ => [(1, pt c 0), (145, vB (a0.Mono && (decide (a0.Kind = 2))))]) ?_ ?_
                       ·refine WL.part 141 z (fun G => ?_) (fun G => ?_)
                        ·refine ug z z (wY (yf fo37_2 z) z (ug z z (wY (yl ty3 z z (p.cell 2 _ z)) z (ug z z (wY (Y.eql_i z z) z (wY (Y.pick (b := true) z z) z (WL.ren (v' := vB (a0.Mono && (decide (a0.Kind = 2)))) 145 z (congrArg vB (andT G)) ?_)))))))
                         exact nl (At.join () z (.cons z (.cons z .nil)))
                        ·refine WL.gS z z z z (WL.gS z z z z (WL.gS z z z z (wY (Y.pick (b := false) z z) z (WL.ren (v' := vB (a0.Mono && (decide (a0.Kind = 2)))) 145 z (congrArg vB (andF G)) ?_))))
                         exact nl (At.join () z (.cons z (.cons z .nil)))
                       ·rintro _ _ rfl
                        refine (show WL _ _ _ _ _ [(1, pt c 0), (145, vB (a0.Mono && (decide (a0.Kind = 2))))] _ from ?_)
                        refine wY (ym z) z ?_
                        obtain ⟨bJ, h, aT⟩ := bnd h
                        refine WL.cut 5 (σ := (Bool × Own)) (fun x w' => x.1 = bJ ∧ Stp [] ac q x.2 w') (fun x => [(1, pt c 0), (151, vB x.1)]) ?_ ?_
                        ·rcases cnd h with ⟨H, h⟩ | ⟨H, h⟩
                         ·refine WL.ren 146 z (congrArg vB H) (ug z z (wY (yf fo37_8 z) z (ug z z (wY (yl ty25 z z (p.cell 8 _ z)) z (ug z z ?_)))))
                          obtain ⟨bK, aU, h⟩ := bnd h
                          refine WL.call (vals := [vu a0.Re]) kok80 z z (c_ref05_Finite aU) ?_
                          rintro ca cb ⟨rfl, aW⟩
                          obtain ⟨bL, bS, bT, aO⟩ := adoptE ac (fun k => 1) aW
                          refine ug z z (wY (Y.not z) z (wY (Y.pick (b := true) z z) z ?_))
                          exact nl (At.join (σ := (Bool × Own)) ((!bK), bL) ⟨some1 h, (su_ aO z)⟩ (.cons z (.cons z .nil)))
                         ·refine WL.ren 146 z (congrArg vB H) (WL.gS z z z z (WL.gS z z z z (WL.gS z z z z (WL.gS z z z z (wY (Y.pick (b := false) z z) z ?_)))))
                          exact nl (At.join (σ := (Bool × Own)) (false, ac) ⟨some1 h, (sr_ _ _ _)⟩ (.cons z (.cons z .nil)))
                        ·rintro ⟨bM, I⟩ J ⟨rfl, n⟩
                         replace h := aT
                         try dsimp only at h n
                         refine (show WL _ _ _ _ _ [(1, pt c 0), (151, vB bM)] _ from ?_)
                         refine nl (th ?_)
                         rcases cnd h with ⟨K, h⟩ | ⟨K, h⟩
                         ·refine WC.condT' z K (sq (rg (wY (ya z) z (nl (th (rt (At.thenR ?_)))))))
                          obtain rfl := some1 h
                          have aX : Stp [] (Lg.O0 A) w I J := (tr_ (su_ j z) (tr_ (su_ l z) (tr_ (su_ m z) (su_ n z))))
                          exact At.res (.inl z) z (.tmp z .nil) ⟨z, (se_ aX z z)⟩
                         ·refine WC.condF' z K (sk (th (sq (sq (rg (wY (yf fo37_4 z) z ?_))))))
                          have t := p.st n z
                          refine wY (yl ty4 z z (t.cell 4 _ z)) z (wY (ym z) z ?_)
                          refine WL.cut 4 (σ := Unit) (fun _ w' => J = w') (fun _ => [(1, pt c 0), (158, vB (a0.Mono && (decide (a0.Kind = 2))))]) ?_ ?_
                          ·refine WL.part 154 z (fun L => ?_) (fun L => ?_)
                           ·refine ug z z (wY (yf fo37_2 z) z (ug z z (wY (yl ty3 z z (t.cell 2 _ z)) z (ug z z (wY (Y.eql_i z z) z (wY (Y.pick (b := true) z z) z (WL.ren (v' := vB (a0.Mono && (decide (a0.Kind = 2)))) 158 z (congrArg vB (andT L)) ?_)))))))
                            exact nl (At.join () z (.cons z (.cons z .nil)))
                           ·refine WL.gS z z z z (WL.gS z z z z (WL.gS z z z z (wY (Y.pick (b := false) z z) z (WL.ren (v' := vB (a0.Mono && (decide (a0.Kind = 2)))) 158 z (congrArg vB (andF L)) ?_))))
                            exact nl (At.join () z (.cons z (.cons z .nil)))
                          ·rintro _ _ rfl
                           refine (show WL _ _ _ _ _ [(1, pt c 0), (158, vB (a0.Mono && (decide (a0.Kind = 2))))] _ from ?_)
                           refine wY (ym z) z ?_
                           obtain ⟨bO, h, aY⟩ := bnd h
                           refine WL.cut 4 (σ := (Bool × Own)) (fun x w' => x.1 = bO ∧ Stp [] I J x.2 w') (fun x => [(1, pt c 0), (163, vB x.1)]) ?_ ?_
                           ·rcases cnd h with ⟨M, h⟩ | ⟨M, h⟩
                            ·refine WL.ren 159 z (congrArg vB M) (ug z z (wY (yf fo37_8 z) z (ug z z (wY (yl ty25 z z (t.cell 8 _ z)) z (ug z z ?_)))))
                             obtain ⟨bP, aZ, h⟩ := bnd h
                             refine WL.call (vals := [vu a0.Re, vu 0]) kok100 z z (c_ref05_Less aZ) ?_
                             rintro cc cd ⟨rfl, a1⟩
                             obtain ⟨bQ, bU, bW, aP⟩ := adoptE I (fun k => 1) a1
                             refine wY (Y.pick (b := true) z z) z ?_
                             exact nl (At.join (σ := (Bool × Own)) (bP, bQ) ⟨some1 h, (su_ aP z)⟩ (.cons z (.cons z .nil)))
                            ·refine WL.ren 159 z (congrArg vB M) (WL.gS z z z z (WL.gS z z z z (WL.gS z z z z (wY (Y.pick (b := false) z z) z ?_))))
                             exact nl (At.join (σ := (Bool × Own)) (false, I) ⟨some1 h, (sr_ _ _ _)⟩ (.cons z (.cons z .nil)))
                           ·rintro ⟨D, aK⟩ C ⟨rfl, o⟩
                            replace h := aY
                            try dsimp only at h o
                            refine (show WL _ _ _ _ _ [(1, pt c 0), (163, vB D)] _ from ?_)
                            refine wY (ym z) z ?_
                            refine WL.cut 13 (σ := Unit) (fun _ w' => C = w') (fun _ => [(1, pt c 0), (177, vB (D || ((a0.Mono && (decide (a0.Kind = 1))) && (decide (a0.Int_ < 0)))))]) ?_ ?_
                            ·refine WL.part 164 z (fun P => ?_) (fun P => ?_)
                             ·refine WL.gS z z z z (WL.gS z z z z (WL.gS z z z z (WL.gS z z z z (WL.gS z z z z (WL.gS z z z z (WL.gS z z z z (WL.gS z z z z (WL.gS z z z z (WL.gS z z z z ?_)))))))))
                              refine WL.gS z z z z (WL.gS z z z z (wY (Y.pick (b := true) z z) z (WL.ren (v' := vB (D || ((a0.Mono && (decide (a0.Kind = 1))) && (decide (a0.Int_ < 0))))) 177 z (congrArg vB (orT P)) ?_)))
                              exact nl (At.join () z (.cons z (.cons z .nil)))
                             ·refine ug z z (wY (yf fo37_4 z) z (ug z z ?_))
                              have Q := t.st o z
                              refine wY (yl ty4 z z (Q.cell 4 _ z)) z (ug z z (wY (ym z) z ?_))
                              refine WL.cut 4 (σ := Unit) (fun _ w' => C = w') (fun _ => [(1, pt c 0), (164, vB false), (171, vB (a0.Mono && (decide (a0.Kind = 1))))]) ?_ ?_
                              ·refine WL.part 167 z (fun R => ?_) (fun R => ?_)
                               ·refine ug z z (wY (yf fo37_2 z) z (ug z z (wY (yl ty3 z z (Q.cell 2 _ z)) z (ug z z (wY (Y.eql_i z z) z (ug z z (wY (Y.pick (b := true) z z) z (WL.ren (v' := vB (a0.Mono && (decide (a0.Kind = 1)))) 171 z (congrArg vB (andT R)) ?_))))))))
                                exact nl (At.join () z (.cons z (.cons z (.cons z .nil))))
                               ·refine WL.gS z z z z (WL.gS z z z z (WL.gS z z z z (ug z z (wY (Y.pick (b := false) z z) z (WL.ren (v' := vB (a0.Mono && (decide (a0.Kind = 1)))) 171 z (congrArg vB (andF R)) ?_)))))
                                exact nl (At.join () z (.cons z (.cons z (.cons z .nil))))
                              ·rintro _ _ rfl
                               refine (show WL _ _ _ _ _ [(1, pt c 0), (164, vB false), (171, vB (a0.Mono && (decide (a0.Kind = 1))))] _ from ?_)
                               refine ug z z (wY (ym z) z ?_)
                               refine WL.cut 4 (σ := Unit) (fun _ w' => C = w') (fun _ => [(1, pt c 0), (164, vB false), (176, vB ((a0.Mono && (decide (a0.Kind = 1))) && (decide (a0.Int_ < 0))))]) ?_ ?_
                               ·refine WL.part 172 z (fun S => ?_) (fun S => ?_)
                                ·refine ug z z (wY (yf fo37_7 z) z (ug z z (wY (yl ty3 z z (Q.cell 7 _ z)) z (ug z z (wY (Y.lss_i z z) z (ug z z (wY (Y.pick (b := true) z z) z (WL.ren (v' := vB ((a0.Mono && (decide (a0.Kind = 1))) && (decide (a0.Int_ < 0)))) 176 z (congrArg vB (andT S)) ?_))))))))
                                 exact nl (At.join () z (.cons z (.cons z (.cons z .nil))))
                                ·refine WL.gS z z z z (WL.gS z z z z (WL.gS z z z z (ug z z (wY (Y.pick (b := false) z z) z (WL.ren (v' := vB ((a0.Mono && (decide (a0.Kind = 1))) && (decide (a0.Int_ < 0)))) 176 z (congrArg vB (andF S)) ?_)))))
                                 exact nl (At.join () z (.cons z (.cons z (.cons z .nil))))
                               ·rintro _ _ rfl
                                refine (show WL _ _ _ _ _ [(1, pt c 0), (164, vB false), (176, vB ((a0.Mono && (decide (a0.Kind = 1))) && (decide (a0.Int_ < 0))))] _ from ?_)
                                refine wY (Y.pick (b := false) z z) z (WL.ren (v' := vB (D || ((a0.Mono && (decide (a0.Kind = 1))) && (decide (a0.Int_ < 0))))) 177 z (congrArg vB (orF P)) ?_)
                                exact nl (At.join () z (.cons z (.cons z .nil)))
                            ·rintro _ _ rfl
                             refine (show WL _ _ _ _ _ [(1, pt c 0), (177, vB (D || ((a0.Mono && (decide (a0.Kind = 1))) && (decide (a0.Int_ < 0)))))] _ from ?_)
                             refine nl (th ?_)
                             rcases cnd h with ⟨T, h⟩ | ⟨T, h⟩
                             ·refine WC.condT' z T (sq (rg (wY (ya z) z (nl (th (rt (At.thenR ?_)))))))
                              obtain rfl := some1 h
                              have a2 : Stp [] (Lg.O0 A) w aK C := (tr_ (su_ j z) (tr_ (su_ l z) (tr_ (su_ m z) (tr_ (su_ n z) (su_ o z)))))
                              exact At.res (.inl z) z (.tmp z .nil) ⟨z, (se_ a2 z z)⟩
                             ·refine WC.condF' z T (sk (th (sq (sq (rg (wY (yf fo37_2 z) z ?_))))))
                              have aM := t.st o z
                              refine wY (yl ty3 z z (aM.cell 2 _ z)) z (wY (Y.eql_i z z) z (nl (th ?_)))
                              rcases cnd h with ⟨U, h⟩ | ⟨U, h⟩
                              ·refine WC.condT' z U (sq (rg (wY (yf fo37_10 z) z (wY (yL ty30 z z (aM.cells 10 [vi a0.Hist.Scale, vu a0.Hist.Zero, vi a0.Hist.Pos.Offset, (Value.slice V W X), vi a0.Hist.Neg.Offset, (Value.slice Z aa ab)] z) z) z ?_))))
                               have a3 := ad.i j z z
                               have a4 := a3.i l z z
                               have a5 := a4.i m z z
                               have a6 := a5.i n z z
                               have a7 := a6.i o z z
                               have a8 := ae.i j z z
                               have a9 := a8.i l z z
                               have ba := a9.i m z z
                               have bb := ba.i n z z
                               have bc := bb.i o z z
                               obtain ⟨ck, bd, h⟩ := bnd h
                               refine WL.call (vals := [ag [vi a0.Hist.Scale, vu a0.Hist.Zero, vi a0.Hist.Pos.Offset, (Value.slice V W X), vi a0.Hist.Neg.Offset, (Value.slice Z aa ab)]]) kok82 z z (c_ref08_Check (A := fun _ => True) (a0 := a0.Hist) (Sl.all a7) (Sl.all bc) bd) ?_
                               rintro ce bf ⟨rfl, bg⟩
                               obtain ⟨bR, bX, bY, aQ⟩ := adoptE aK (fun k => 1) bg
                               refine wY (ya z) z (nl (th (rt (At.thenR ?_))))
                               obtain rfl := some1 h
                               have bh : Stp [] (Lg.O0 A) w bR bf := (tr_ (su_ j z) (tr_ (su_ l z) (tr_ (su_ m z) (tr_ (su_ n z) (tr_ (su_ o z) (su_ aQ z))))))
                               exact At.res (.inl z) z (.tmp z .nil) ⟨z, (se_ bh z z)⟩
                              ·refine WC.condF' z U (sk (th (sq (rg (wY (ya z) z (nl (th (rt ?_))))))))
                               obtain rfl := some1 h
                               have bi : Stp [] (Lg.O0 A) w aK C := (tr_ (su_ j z) (tr_ (su_ l z) (tr_ (su_ m z) (tr_ (su_ n z) (su_ o z)))))
                               exact At.res (.inl z) z (.tmp z .nil) ⟨z, (se_ bi z z)⟩
end Go.Lg
