/- The walks of TocumMirror and of what it calls, printed by gen.py. -/
import Derived.Test.YtoiklipabcecfaaMiLgConvWTocumMirrorx1
set_option linter.unusedVariables false
namespace Go.Lg
open Go Go.Proofs
set_option maxRecDepth 100000
set_option maxHeartbeats 4000000
theorem c_law16_awake {w : World} {r0 : Bool} (h : law16_awake = some r0) : Rets Try.prog 16 [] w (fun v w' => v = vB r0 ∧ Ext w w') := by
 unfold law16_awake at h
 refine Rets.enter Try.func16 z z ?_
 refine (show WC _ _ _ _ [] _ from ?_)
 refine sq (rg (wY (ya z) z (nl (th (sq (rg (wY (yb (vals := [(0, vs [120]), (2, vi 1), (3, vi 2), (6, vi 10), (7, vi 5)]) (cells := [vs [120], Value.slice none 0 0, vi 1, vi 2, vB false, vi 0, vi 10, vi 5, vu 0, vu 0, vi 0, vu 0, vi 0, Value.slice none 0 0, vi 0, Value.slice none 0 0, vi 0]) (fe_ z) (by kernel_rfl)) z (WL.alloc (O := (Lg.O0 (fun _ => False))) 11 [vs [], Value.slice none 0 0, vi 0, vi 0, vB false, vi 0, vi 0, vi 0, vu 0, vu 0, vi 0, vu 0, vi 0, Value.slice none 0 0, vi 0, Value.slice none 0 0, vi 0] ty37 z z ?_))))))))
 intro fV fg fK bm ef
 refine WL.store (v := Value.agg (List.toArray [vs [120], Value.slice none 0 0, vi 1, vi 2, vB false, vi 0, vi 10, vi 5, vu 0, vu 0, vi 0, vu 0, vi 0, Value.slice none 0 0, vi 0, Value.slice none 0 0, vi 0])) (cells' := [vs [120], Value.slice none 0 0, vi 1, vi 2, vB false, vi 0, vi 10, vi 5, vu 0, vu 0, vi 0, vu 0, vi 0, Value.slice none 0 0, vi 0, Value.slice none 0 0, vi 0]) ty37 z z ef z (le_ z) z z ?_
 intro fL bn aR
 refine nl (th (sq (rg (wY (yb (vals := []) (cells := [vB false, vi 0, vi 0, vi 0, vu 0, vu 0, vi 0, vu 0, vi 0, Value.slice none 0 0, vi 0, Value.slice none 0 0]) (fe_ z) (by kernel_rfl)) z (wY (yL ty37 z z (aR.cells 0 [vs [120], Value.slice none 0 0, vi 1, vi 2, vB false, vi 0, vi 10, vi 5, vu 0, vu 0, vi 0, vu 0, vi 0, Value.slice none 0 0, vi 0, Value.slice none 0 0, vi 0] z) z) z ?_)))))
 obtain ⟨⟨n, a, m⟩, eg, h⟩ := bnd h
 refine WL.call (vals := [ag [vB false, vi 0, vi 0, vi 0, vu 0, vu 0, vi 0, vu 0, vi 0, Value.slice none 0 0, vi 0, Value.slice none 0 0], Value.agg (List.toArray [vs [120], Value.slice none 0 0, vi 1, vi 2, vB false, vi 0, vi 10, vi 5, vu 0, vu 0, vi 0, vu 0, vi 0, Value.slice none 0 0, vi 0, Value.slice none 0 0, vi 0]), vi 10]) kok20 z z (c_tocum_Next (A := fun _ => True) (a0 := (api_State.mk false 0 0 0 0 0 (api_Hist.mk 0 0 (api_Side.mk 0 []) (api_Side.mk 0 [])))) (a1 := (api_Point.mk [120] [] 1 2 false 0 10 5 0 0 (api_Hist.mk 0 0 (api_Side.mk 0 []) (api_Side.mk 0 [])) 0)) (Or.inl ⟨z, z⟩) (Or.inl ⟨z, z⟩) (Or.inl ⟨z, z⟩) (Or.inl ⟨z, z⟩) (Or.inl ⟨z, z⟩) eg) ?_
 rintro fN ah ⟨fh, fi, fj, fk, fl, rfl, eh, fm, fn, fo, fp, fq⟩
 obtain ⟨ai, fr, Z, aG⟩ := adoptE fg (fun k => 1) eh
 have ei : Sl Rep.u ah (frs ai) fh n.Hist.Pos.Counts := Sl.adoptF fm (fun k hk => ⟨hk, z⟩) Z
 have ej : Sl Rep.u ah (frs ai) fi n.Hist.Neg.Counts := Sl.adoptF fn (fun k hk => ⟨hk, z⟩) Z
 have ek : Sl rep_api_Pair ah (frs ai) fj a.Attrs := Sl.adoptF fo (fun k hk => ⟨hk, z⟩) Z
 have em : Sl Rep.u ah (frs ai) fk a.Hist.Pos.Counts := Sl.adoptF fp (fun k hk => ⟨hk, z⟩) Z
 have en : Sl Rep.u ah (frs ai) fl a.Hist.Neg.Counts := Sl.adoptF fq (fun k hk => ⟨hk, z⟩) Z
 refine wY (ym z) z (wY (yx z z) z (wY (yx z z) z (wY (yx z z) z (WL.alloc (O := ai) 12 [vB false, vi 0, vi 0, vi 0, vu 0, vu 0, vi 0, vu 0, vi 0, Value.slice none 0 0, vi 0, Value.slice none 0 0] ty32 z z ?_))))
 intro fY fs fO X eo
 refine WL.alloc (O := fs) 13 [vs [], Value.slice none 0 0, vi 0, vi 0, vB false, vi 0, vi 0, vi 0, vu 0, vu 0, vi 0, vu 0, vi 0, Value.slice none 0 0, vi 0, Value.slice none 0 0, vi 0] ty37 z z ?_
 intro af ft fP S ep
 have er := ei.f X z
 have aS := er.f S z
 have es := h
 obtain ⟨aH, aI, aJ, rfl⟩ := aS.shape
 have h := es
 have et := ej.f X z
 have aT := et.f S z
 have eu := h
 obtain ⟨aK, aL, aM, rfl⟩ := aT.shape
 have h := eu
 have ew := eo.st S z
 refine WL.store (v := ag [vB n.Some, vi n.Start, vi n.Time, vi n.Int_, vu n.Re, vu n.Im, vi n.Hist.Scale, vu n.Hist.Zero, vi n.Hist.Pos.Offset, (Value.slice aH aI aJ), vi n.Hist.Neg.Offset, (Value.slice aK aL aM)]) (cells' := [vB n.Some, vi n.Start, vi n.Time, vi n.Int_, vu n.Re, vu n.Im, vi n.Hist.Scale, vu n.Hist.Zero, vi n.Hist.Pos.Offset, (Value.slice aH aI aJ), vi n.Hist.Neg.Offset, (Value.slice aK aL aM)]) ty32 z z ew z (le_ z) z z ?_
 intro fQ T ex
 have ey := ek.f X z
 have ez := ey.f S z
 have eA := ez.f T z
 have eB := h
 obtain ⟨d6, d7, d8, rfl⟩ := eA.shape
 have h := eB
 have eC := em.f X z
 have eD := eC.f S z
 have eE := eD.f T z
 have eF := h
 obtain ⟨d9, ea, eb, rfl⟩ := eE.shape
 have h := eF
 have eG := en.f X z
 have eH := eG.f S z
 have eI := eH.f T z
 have eJ := h
 obtain ⟨ec, ed, ee, rfl⟩ := eI.shape
 have h := eJ
 have eK := ep.st T z
 refine WL.store (v := ag [vs a.Name, (Value.slice d6 d7 d8), vi a.Kind, vi a.Temp, vB a.Mono, vi a.Start, vi a.Time, vi a.Int_, vu a.Re, vu a.Im, vi a.Hist.Scale, vu a.Hist.Zero, vi a.Hist.Pos.Offset, (Value.slice d9 ea eb), vi a.Hist.Neg.Offset, (Value.slice ec ed ee), vi a.Flags]) (cells' := [vs a.Name, (Value.slice d6 d7 d8), vi a.Kind, vi a.Temp, vB a.Mono, vi a.Start, vi a.Time, vi a.Int_, vu a.Re, vu a.Im, vi a.Hist.Scale, vu a.Hist.Zero, vi a.Hist.Pos.Offset, (Value.slice d9 ea eb), vi a.Hist.Neg.Offset, (Value.slice ec ed ee), vi a.Flags]) ty37 z z eK z (le_ z) z z ?_
 intro fR aa aF
 refine wY (ya z) z (nl (th (sq (rg (wY (yf fo37_5 z) z ?_)))))
 have eL := aR.st aG z
 have eM := eL.st X z
 have eN := eM.st S z
 have eO := eN.st T z
 have bo := eO.st aa z
 refine WL.store (v := vi 10) (cells' := [vs [120], Value.slice none 0 0, vi 1, vi 2, vB false, vi 10, vi 10, vi 5, vu 0, vu 0, vi 0, vu 0, vi 0, Value.slice none 0 0, vi 0, Value.slice none 0 0, vi 0]) ty3 z z bo z (le_ z) z z ?_
 intro fu K bp
 refine nl (th (sq (rg (wY (yf fo37_6 z) z (WL.store (v := vi 20) (cells' := [vs [120], Value.slice none 0 0, vi 1, vi 2, vB false, vi 10, vi 20, vi 5, vu 0, vu 0, vi 0, vu 0, vi 0, Value.slice none 0 0, vi 0, Value.slice none 0 0, vi 0]) ty3 z z bp z (le_ z) z z ?_)))))
 intro fv L bq
 refine nl (th (sq (rg (wY (yf fo37_7 z) z (WL.store (v := vi 3) (cells' := [vs [120], Value.slice none 0 0, vi 1, vi 2, vB false, vi 10, vi 20, vi 3, vu 0, vu 0, vi 0, vu 0, vi 0, Value.slice none 0 0, vi 0, Value.slice none 0 0, vi 0]) ty3 z z bq z (le_ z) z z ?_)))))
 intro fw M aN
 refine nl (th (sq (rg ?_)))
 have br := ex.st aa z
 have bs := br.st K z
 have bt := bs.st L z
 have aO := bt.st M z
 refine wY (yL ty32 z z (aO.cells 0 [vB n.Some, vi n.Start, vi n.Time, vi n.Int_, vu n.Re, vu n.Im, vi n.Hist.Scale, vu n.Hist.Zero, vi n.Hist.Pos.Offset, (Value.slice aH aI aJ), vi n.Hist.Neg.Offset, (Value.slice aK aL aM)] z) z) z (wY (yL ty37 z z (aN.cells 0 [vs [120], Value.slice none 0 0, vi 1, vi 2, vB false, vi 10, vi 20, vi 3, vu 0, vu 0, vi 0, vu 0, vi 0, Value.slice none 0 0, vi 0, Value.slice none 0 0, vi 0] z) z) z ?_)
 have bu := aS.f T z
 have bw := bu.f aa z
 have bx := bw.f K z
 have bz := bx.f L z
 have bA := bz.f M z
 have bB := aT.f T z
 have bC := bB.f aa z
 have bD := bC.f K z
 have bE := bD.f L z
 have bF := bE.f M z
 obtain ⟨⟨j, c, e⟩, bG, h⟩ := bnd h
 refine WL.call (vals := [ag [vB n.Some, vi n.Start, vi n.Time, vi n.Int_, vu n.Re, vu n.Im, vi n.Hist.Scale, vu n.Hist.Zero, vi n.Hist.Pos.Offset, (Value.slice aH aI aJ), vi n.Hist.Neg.Offset, (Value.slice aK aL aM)], Value.agg (List.toArray [vs [120], Value.slice none 0 0, vi 1, vi 2, vB false, vi 10, vi 20, vi 3, vu 0, vu 0, vi 0, vu 0, vi 0, Value.slice none 0 0, vi 0, Value.slice none 0 0, vi 0]), vi 10]) kok20 z z (c_tocum_Next (A := fun _ => True) (a0 := n) (a1 := (api_Point.mk [120] [] 1 2 false 10 20 3 0 0 (api_Hist.mk 0 0 (api_Side.mk 0 []) (api_Side.mk 0 [])) 0)) (Sl.all bA) (Sl.all bF) (Or.inl ⟨z, z⟩) (Or.inl ⟨z, z⟩) (Or.inl ⟨z, z⟩) bG) ?_
 rintro fx ab ⟨eP, eQ, eR, eS, eT, rfl, bH, eU, eV, eW, eX, eY⟩
 obtain ⟨ad, fe, U, V⟩ := adoptE ft (fun k => 1) bH
 have bI : Sl Rep.u ab (frs ad) eP j.Hist.Pos.Counts := Sl.adoptF eU (fun k hk => ⟨hk, z⟩) U
 have bJ : Sl Rep.u ab (frs ad) eQ j.Hist.Neg.Counts := Sl.adoptF eV (fun k hk => ⟨hk, z⟩) U
 have bK : Sl rep_api_Pair ab (frs ad) eR c.Attrs := Sl.adoptF eW (fun k hk => ⟨hk, z⟩) U
 have bL : Sl Rep.u ab (frs ad) eS c.Hist.Pos.Counts := Sl.adoptF eX (fun k hk => ⟨hk, z⟩) U
 have bM : Sl Rep.u ab (frs ad) eT c.Hist.Neg.Counts := Sl.adoptF eY (fun k hk => ⟨hk, z⟩) U
 refine wY (ym z) z (wY (yx z z) z (wY (yx z z) z (wY (yx z z) z (WL.alloc (O := ad) 14 [vs [], Value.slice none 0 0, vi 0, vi 0, vB false, vi 0, vi 0, vi 0, vu 0, vu 0, vi 0, vu 0, vi 0, Value.slice none 0 0, vi 0, Value.slice none 0 0, vi 0] ty37 z z ?_))))
 intro I eZ fy t bO
 have aP := bI.f t z
 have bP := h
 obtain ⟨aj, ak, al, rfl⟩ := aP.shape
 have h := bP
 have aQ := bJ.f t z
 have bQ := h
 obtain ⟨am, an, ao, rfl⟩ := aQ.shape
 have h := bQ
 have bR := aO.st V z
 have bS := bR.st t z
 refine WL.store (v := ag [vB j.Some, vi j.Start, vi j.Time, vi j.Int_, vu j.Re, vu j.Im, vi j.Hist.Scale, vu j.Hist.Zero, vi j.Hist.Pos.Offset, (Value.slice aj ak al), vi j.Hist.Neg.Offset, (Value.slice am an ao)]) (cells' := [vB j.Some, vi j.Start, vi j.Time, vi j.Int_, vu j.Re, vu j.Im, vi j.Hist.Scale, vu j.Hist.Zero, vi j.Hist.Pos.Offset, (Value.slice aj ak al), vi j.Hist.Neg.Offset, (Value.slice am an ao)]) ty32 z z bS z (le_ z) z z ?_
 intro fz C bT
 have bU := bK.f t z
 have bW := bU.f C z
 have bX := h
 obtain ⟨aU, aW, aX, rfl⟩ := bW.shape
 have h := bX
 have bY := bL.f t z
 have bZ := bY.f C z
 have b0 := h
 obtain ⟨aY, aZ, a2, rfl⟩ := bZ.shape
 have h := b0
 have b1 := bM.f t z
 have b2 := b1.f C z
 have b3 := h
 obtain ⟨a3, a4, a5, rfl⟩ := b2.shape
 have h := b3
 have b4 := bO.st C z
 refine WL.store (v := ag [vs c.Name, (Value.slice aU aW aX), vi c.Kind, vi c.Temp, vB c.Mono, vi c.Start, vi c.Time, vi c.Int_, vu c.Re, vu c.Im, vi c.Hist.Scale, vu c.Hist.Zero, vi c.Hist.Pos.Offset, (Value.slice aY aZ a2), vi c.Hist.Neg.Offset, (Value.slice a3 a4 a5), vi c.Flags]) (cells' := [vs c.Name, (Value.slice aU aW aX), vi c.Kind, vi c.Temp, vB c.Mono, vi c.Start, vi c.Time, vi c.Int_, vu c.Re, vu c.Im, vi c.Hist.Scale, vu c.Hist.Zero, vi c.Hist.Pos.Offset, (Value.slice aY aZ a2), vi c.Hist.Neg.Offset, (Value.slice a3 a4 a5), vi c.Flags]) ty37 z z b4 z (le_ z) z z ?_
 intro fA J ap
 refine wY (ya z) z (nl (th (sq (rg (wY (yf fo37_5 z) z ?_)))))
 have b5 := aN.st V z
 have b6 := b5.st t z
 have b7 := b6.st C z
 have b8 := b7.st J z
 refine WL.store (v := vi 25) (cells' := [vs [120], Value.slice none 0 0, vi 1, vi 2, vB false, vi 25, vi 20, vi 3, vu 0, vu 0, vi 0, vu 0, vi 0, Value.slice none 0 0, vi 0, Value.slice none 0 0, vi 0]) ty3 z z b8 z (le_ z) z z ?_
 intro fB E b9
 refine nl (th (sq (rg (wY (yf fo37_6 z) z (WL.store (v := vi 30) (cells' := [vs [120], Value.slice none 0 0, vi 1, vi 2, vB false, vi 25, vi 30, vi 3, vu 0, vu 0, vi 0, vu 0, vi 0, Value.slice none 0 0, vi 0, Value.slice none 0 0, vi 0]) ty3 z z b9 z (le_ z) z z ?_)))))
 intro fC F ca
 refine nl (th (sq (rg (wY (yf fo37_7 z) z (WL.store (v := vi 2) (cells' := [vs [120], Value.slice none 0 0, vi 1, vi 2, vB false, vi 25, vi 30, vi 2, vu 0, vu 0, vi 0, vu 0, vi 0, Value.slice none 0 0, vi 0, Value.slice none 0 0, vi 0]) ty3 z z ca z (le_ z) z z ?_)))))
 intro fD G cb
 refine nl (th (sq (rg ?_)))
 have cc := bT.st J z
 have cd := cc.st E z
 have ce := cd.st F z
 have cf := ce.st G z
 refine wY (yL ty32 z z (cf.cells 0 [vB j.Some, vi j.Start, vi j.Time, vi j.Int_, vu j.Re, vu j.Im, vi j.Hist.Scale, vu j.Hist.Zero, vi j.Hist.Pos.Offset, (Value.slice aj ak al), vi j.Hist.Neg.Offset, (Value.slice am an ao)] z) z) z (wY (yL ty37 z z (cb.cells 0 [vs [120], Value.slice none 0 0, vi 1, vi 2, vB false, vi 25, vi 30, vi 2, vu 0, vu 0, vi 0, vu 0, vi 0, Value.slice none 0 0, vi 0, Value.slice none 0 0, vi 0] z) z) z ?_)
 have cg := aP.f C z
 have ch := cg.f J z
 have ci := ch.f E z
 have cj := ci.f F z
 have ck := cj.f G z
 have cl := aQ.f C z
 have cm := cl.f J z
 have cn := cm.f E z
 have co := cn.f F z
 have cp := co.f G z
 obtain ⟨⟨o, d, l⟩, cq, h⟩ := bnd h
 refine WL.call (vals := [ag [vB j.Some, vi j.Start, vi j.Time, vi j.Int_, vu j.Re, vu j.Im, vi j.Hist.Scale, vu j.Hist.Zero, vi j.Hist.Pos.Offset, (Value.slice aj ak al), vi j.Hist.Neg.Offset, (Value.slice am an ao)], Value.agg (List.toArray [vs [120], Value.slice none 0 0, vi 1, vi 2, vB false, vi 25, vi 30, vi 2, vu 0, vu 0, vi 0, vu 0, vi 0, Value.slice none 0 0, vi 0, Value.slice none 0 0, vi 0]), vi 10]) kok20 z z (c_tocum_Next (A := fun _ => True) (a0 := j) (a1 := (api_Point.mk [120] [] 1 2 false 25 30 2 0 0 (api_Hist.mk 0 0 (api_Side.mk 0 []) (api_Side.mk 0 [])) 0)) (Sl.all ck) (Sl.all cp) (Or.inl ⟨z, z⟩) (Or.inl ⟨z, z⟩) (Or.inl ⟨z, z⟩) cq) ?_
 rintro fF ac ⟨e0, e1, e2, e5, e6, rfl, cr, e7, e8, e9, fa, fb⟩
 obtain ⟨ae, ff, W, P⟩ := adoptE eZ (fun k => 1) cr
 have cs : Sl Rep.u ac (frs ae) e0 o.Hist.Pos.Counts := Sl.adoptF e7 (fun k hk => ⟨hk, z⟩) W
 have ct : Sl Rep.u ac (frs ae) e1 o.Hist.Neg.Counts := Sl.adoptF e8 (fun k hk => ⟨hk, z⟩) W
 have cu : Sl rep_api_Pair ac (frs ae) e2 d.Attrs := Sl.adoptF e9 (fun k hk => ⟨hk, z⟩) W
 have cv : Sl Rep.u ac (frs ae) e5 d.Hist.Pos.Counts := Sl.adoptF fa (fun k hk => ⟨hk, z⟩) W
 have cw : Sl Rep.u ac (frs ae) e6 d.Hist.Neg.Counts := Sl.adoptF fb (fun k hk => ⟨hk, z⟩) W
 refine wY (ym z) z (wY (yx z z) z (wY (yx z z) z (wY (yx z z) z (WL.alloc (O := ae) 15 [vB false, vi 0, vi 0, vi 0, vu 0, vu 0, vi 0, vu 0, vi 0, Value.slice none 0 0, vi 0, Value.slice none 0 0] ty32 z z ?_))))
 intro fT fc fG r cx
 refine WL.alloc (O := fc) 16 [vs [], Value.slice none 0 0, vi 0, vi 0, vB false, vi 0, vi 0, vi 0, vu 0, vu 0, vi 0, vu 0, vi 0, Value.slice none 0 0, vi 0, Value.slice none 0 0, vi 0] ty37 z z ?_
 intro p fd fH q cy
 have cz := cs.f r z
 have cA := cz.f q z
 have cC := h
 obtain ⟨a6, a7, a8, rfl⟩ := cA.shape
 have h := cC
 have cD := ct.f r z
 have cE := cD.f q z
 have cF := h
 obtain ⟨a9, ba, bb, rfl⟩ := cE.shape
 have h := cF
 have cG := cx.st q z
 refine WL.store (v := ag [vB o.Some, vi o.Start, vi o.Time, vi o.Int_, vu o.Re, vu o.Im, vi o.Hist.Scale, vu o.Hist.Zero, vi o.Hist.Pos.Offset, (Value.slice a6 a7 a8), vi o.Hist.Neg.Offset, (Value.slice a9 ba bb)]) (cells' := [vB o.Some, vi o.Start, vi o.Time, vi o.Int_, vu o.Re, vu o.Im, vi o.Hist.Scale, vu o.Hist.Zero, vi o.Hist.Pos.Offset, (Value.slice a6 a7 a8), vi o.Hist.Neg.Offset, (Value.slice a9 ba bb)]) ty32 z z cG z (le_ z) z z ?_
 intro fI D fJ
 have cH := cu.f r z
 have cI := cH.f q z
 have cJ := cI.f D z
 have cK := h
 obtain ⟨bc, bd, bf, rfl⟩ := cJ.shape
 have h := cK
 have cL := cv.f r z
 have cM := cL.f q z
 have cN := cM.f D z
 have cO := h
 obtain ⟨bg, bh, bi, rfl⟩ := cN.shape
 have h := cO
 have cP := cw.f r z
 have cQ := cP.f q z
 have cR := cQ.f D z
 have cS := h
 obtain ⟨bj, bk, bl, rfl⟩ := cR.shape
 have h := cS
 have cT := cy.st D z
 refine WL.store (v := ag [vs d.Name, (Value.slice bc bd bf), vi d.Kind, vi d.Temp, vB d.Mono, vi d.Start, vi d.Time, vi d.Int_, vu d.Re, vu d.Im, vi d.Hist.Scale, vu d.Hist.Zero, vi d.Hist.Pos.Offset, (Value.slice bg bh bi), vi d.Hist.Neg.Offset, (Value.slice bj bk bl), vi d.Flags]) (cells' := [vs d.Name, (Value.slice bc bd bf), vi d.Kind, vi d.Temp, vB d.Mono, vi d.Start, vi d.Time, vi d.Int_, vu d.Re, vu d.Im, vi d.Hist.Scale, vu d.Hist.Zero, vi d.Hist.Pos.Offset, (Value.slice bg bh bi), vi d.Hist.Neg.Offset, (Value.slice bj bk bl), vi d.Flags]) ty37 z z cT z (le_ z) z z ?_
 intro H Q aq
 refine wY (ya z) z (nl (th (sq (rg (wY (ym z) z (wY (Y.eql_i z z) z (wY (ym z) z ?_)))))))
 refine WL.cut 3 (σ := Unit) (fun _ w' => H = w') (fun _ => [(3, pt af 0), (5, pt I 0), (8, pt p 0), (9, vi l), (43, vB ((decide (m = 0)) && (decide (e = 0))))]) ?_ ?_
 ·refine WL.part 40 z (fun ar => ?_) (fun ar => ?_)
  ·refine ug z z (wY (ym z) z (ug z z (wY (Y.eql_i z z) z (wY (Y.pick (b := true) z z) z (WL.ren (v' := vB ((decide (m = 0)) && (decide (e = 0)))) 43 z (congrArg vB (andT ar)) ?_)))))
   exact nl (At.join () z (.cons z (.cons z (.cons z (.cons z (.cons z .nil))))))
  ·refine WL.gS z z z z (WL.gS z z z z (wY (Y.pick (b := false) z z) z (WL.ren (v' := vB ((decide (m = 0)) && (decide (e = 0)))) 43 z (congrArg vB (andF ar)) ?_)))
   exact nl (At.join () z (.cons z (.cons z (.cons z (.cons z (.cons z .nil))))))
 ·rintro _ _ rfl
  refine (show WL _ _ _ _ _ [(3, pt af 0), (5, pt I 0), (8, pt p 0), (9, vi l), (43, vB ((decide (m = 0)) && (decide (e = 0))))] _ from ?_)
  refine wY (ym z) z ?_
  refine WL.cut 3 (σ := Unit) (fun _ w' => H = w') (fun _ => [(3, pt af 0), (5, pt I 0), (8, pt p 0), (47, vB (((decide (m = 0)) && (decide (e = 0))) && (decide (l = 0))))]) ?_ ?_
  ·refine WL.part 44 z (fun au => ?_) (fun au => ?_)
   ·refine ug z z (wY (ym z) z (ug z z (wY (Y.eql_i z z) z (wY (Y.pick (b := true) z z) z (WL.ren (v' := vB (((decide (m = 0)) && (decide (e = 0))) && (decide (l = 0)))) 47 z (congrArg vB (andT au)) ?_)))))
    exact nl (At.join () z (.cons z (.cons z (.cons z (.cons z .nil)))))
   ·refine WL.gS z z z z (WL.gS z z z z (wY (Y.pick (b := false) z z) z (WL.ren (v' := vB (((decide (m = 0)) && (decide (e = 0))) && (decide (l = 0)))) 47 z (congrArg vB (andF au)) ?_)))
    exact nl (At.join () z (.cons z (.cons z (.cons z (.cons z .nil)))))
  ·rintro _ _ rfl
   refine (show WL _ _ _ _ _ [(3, pt af 0), (5, pt I 0), (8, pt p 0), (47, vB (((decide (m = 0)) && (decide (e = 0))) && (decide (l = 0))))] _ from ?_)
   refine wY (ym z) z ?_
   refine WL.cut 4 (σ := Unit) (fun _ w' => H = w') (fun _ => [(3, pt af 0), (5, pt I 0), (8, pt p 0), (52, vB ((((decide (m = 0)) && (decide (e = 0))) && (decide (l = 0))) && (decide (a.Flags = 1))))]) ?_ ?_
   ·refine WL.part 48 z (fun av => ?_) (fun av => ?_)
    ·refine ug z z (wY (yf fo37_11 z) z (ug z z ?_))
     have cU := aF.st K z
     have cV := cU.st L z
     have cW := cV.st M z
     have cX := cW.st V z
     have cY := cX.st t z
     have cZ := cY.st C z
     have c0 := cZ.st J z
     have c1 := c0.st E z
     have c2 := c1.st F z
     have c3 := c2.st G z
     have c4 := c3.st P z
     have c5 := c4.st r z
     have c6 := c5.st q z
     have c7 := c6.st D z
     have c8 := c7.st Q z
     refine wY (yl ty3 z z (c8.cell 16 _ z)) z (ug z z (wY (Y.eql_i z z) z (wY (Y.pick (b := true) z z) z (WL.ren (v' := vB ((((decide (m = 0)) && (decide (e = 0))) && (decide (l = 0))) && (decide (a.Flags = 1)))) 52 z (congrArg vB (andT av)) ?_))))
     exact nl (At.join () z (.cons z (.cons z (.cons z (.cons z .nil)))))
    ·refine WL.gS z z z z (WL.gS z z z z (WL.gS z z z z (wY (Y.pick (b := false) z z) z (WL.ren (v' := vB ((((decide (m = 0)) && (decide (e = 0))) && (decide (l = 0))) && (decide (a.Flags = 1)))) 52 z (congrArg vB (andF av)) ?_))))
     exact nl (At.join () z (.cons z (.cons z (.cons z (.cons z .nil)))))
   ·rintro _ _ rfl
    refine (show WL _ _ _ _ _ [(3, pt af 0), (5, pt I 0), (8, pt p 0), (52, vB ((((decide (m = 0)) && (decide (e = 0))) && (decide (l = 0))) && (decide (a.Flags = 1))))] _ from ?_)
    refine wY (ym z) z ?_
    refine WL.cut 4 (σ := Unit) (fun _ w' => H = w') (fun _ => [(3, pt af 0), (5, pt I 0), (8, pt p 0), (57, vB (((((decide (m = 0)) && (decide (e = 0))) && (decide (l = 0))) && (decide (a.Flags = 1))) && (decide (a.Int_ = 5))))]) ?_ ?_
    ·refine WL.part 53 z (fun aw => ?_) (fun aw => ?_)
     ·refine ug z z (wY (yf fo37_7 z) z (ug z z ?_))
      have c9 := aF.st K z
      have da := c9.st L z
      have db := da.st M z
      have dc := db.st V z
      have dd := dc.st t z
      have de := dd.st C z
      have df := de.st J z
      have dg := df.st E z
      have dh := dg.st F z
      have di := dh.st G z
      have dj := di.st P z
      have dk := dj.st r z
      have dl := dk.st q z
      have dm := dl.st D z
      have dn := dm.st Q z
      refine wY (yl ty3 z z (dn.cell 7 _ z)) z (ug z z (wY (Y.eql_i z z) z (wY (Y.pick (b := true) z z) z (WL.ren (v' := vB (((((decide (m = 0)) && (decide (e = 0))) && (decide (l = 0))) && (decide (a.Flags = 1))) && (decide (a.Int_ = 5)))) 57 z (congrArg vB (andT aw)) ?_))))
      exact nl (At.join () z (.cons z (.cons z (.cons z (.cons z .nil)))))
     ·refine WL.gS z z z z (WL.gS z z z z (WL.gS z z z z (wY (Y.pick (b := false) z z) z (WL.ren (v' := vB (((((decide (m = 0)) && (decide (e = 0))) && (decide (l = 0))) && (decide (a.Flags = 1))) && (decide (a.Int_ = 5)))) 57 z (congrArg vB (andF aw)) ?_))))
      exact nl (At.join () z (.cons z (.cons z (.cons z (.cons z .nil)))))
    ·rintro _ _ rfl
     refine (show WL _ _ _ _ _ [(3, pt af 0), (5, pt I 0), (8, pt p 0), (57, vB (((((decide (m = 0)) && (decide (e = 0))) && (decide (l = 0))) && (decide (a.Flags = 1))) && (decide (a.Int_ = 5))))] _ from ?_)
     refine wY (ym z) z ?_
     refine WL.cut 4 (σ := Unit) (fun _ w' => H = w') (fun _ => [(5, pt I 0), (8, pt p 0), (62, vB ((((((decide (m = 0)) && (decide (e = 0))) && (decide (l = 0))) && (decide (a.Flags = 1))) && (decide (a.Int_ = 5))) && (decide (a.Temp = 1))))]) ?_ ?_
     ·refine WL.part 58 z (fun ax => ?_) (fun ax => ?_)
      ·refine ug z z (wY (yf fo37_3 z) z (ug z z ?_))
       have dp := aF.st K z
       have dr := dp.st L z
       have ds := dr.st M z
       have dt := ds.st V z
       have du := dt.st t z
       have dw := du.st C z
       have dx := dw.st J z
       have dy := dx.st E z
       have dz := dy.st F z
       have dA := dz.st G z
       have dB := dA.st P z
       have dC := dB.st r z
       have dD := dC.st q z
       have dE := dD.st D z
       have dF := dE.st Q z
       refine wY (yl ty3 z z (dF.cell 3 _ z)) z (ug z z (wY (Y.eql_i z z) z (wY (Y.pick (b := true) z z) z (WL.ren (v' := vB ((((((decide (m = 0)) && (decide (e = 0))) && (decide (l = 0))) && (decide (a.Flags = 1))) && (decide (a.Int_ = 5))) && (decide (a.Temp = 1)))) 62 z (congrArg vB (andT ax)) ?_))))
       exact nl (At.join () z (.cons z (.cons z (.cons z .nil))))
      ·refine WL.gS z z z z (WL.gS z z z z (WL.gS z z z z (wY (Y.pick (b := false) z z) z (WL.ren (v' := vB ((((((decide (m = 0)) && (decide (e = 0))) && (decide (l = 0))) && (decide (a.Flags = 1))) && (decide (a.Int_ = 5))) && (decide (a.Temp = 1)))) 62 z (congrArg vB (andF ax)) ?_))))
       exact nl (At.join () z (.cons z (.cons z (.cons z .nil))))
     ·rintro _ _ rfl
      refine (show WL _ _ _ _ _ [(5, pt I 0), (8, pt p 0), (62, vB ((((((decide (m = 0)) && (decide (e = 0))) && (decide (l = 0))) && (decide (a.Flags = 1))) && (decide (a.Int_ = 5))) && (decide (a.Temp = 1))))] _ from ?_)
      refine wY (ym z) z ?_
      refine WL.cut 4 (σ := Unit) (fun _ w' => H = w') (fun _ => [(5, pt I 0), (8, pt p 0), (67, vB (((((((decide (m = 0)) && (decide (e = 0))) && (decide (l = 0))) && (decide (a.Flags = 1))) && (decide (a.Int_ = 5))) && (decide (a.Temp = 1))) && (decide (c.Flags = 0))))]) ?_ ?_
      ·refine WL.part 63 z (fun ay => ?_) (fun ay => ?_)
       ·refine ug z z (wY (yf fo37_11 z) z (ug z z ?_))
        have dG := ap.st E z
        have dH := dG.st F z
        have dI := dH.st G z
        have dJ := dI.st P z
        have dK := dJ.st r z
        have dL := dK.st q z
        have dM := dL.st D z
        have dN := dM.st Q z
        refine wY (yl ty3 z z (dN.cell 16 _ z)) z (ug z z (wY (Y.eql_i z z) z (wY (Y.pick (b := true) z z) z (WL.ren (v' := vB (((((((decide (m = 0)) && (decide (e = 0))) && (decide (l = 0))) && (decide (a.Flags = 1))) && (decide (a.Int_ = 5))) && (decide (a.Temp = 1))) && (decide (c.Flags = 0)))) 67 z (congrArg vB (andT ay)) ?_))))
        exact nl (At.join () z (.cons z (.cons z (.cons z .nil))))
       ·refine WL.gS z z z z (WL.gS z z z z (WL.gS z z z z (wY (Y.pick (b := false) z z) z (WL.ren (v' := vB (((((((decide (m = 0)) && (decide (e = 0))) && (decide (l = 0))) && (decide (a.Flags = 1))) && (decide (a.Int_ = 5))) && (decide (a.Temp = 1))) && (decide (c.Flags = 0)))) 67 z (congrArg vB (andF ay)) ?_))))
        exact nl (At.join () z (.cons z (.cons z (.cons z .nil))))
      ·rintro _ _ rfl
       refine (show WL _ _ _ _ _ [(5, pt I 0), (8, pt p 0), (67, vB (((((((decide (m = 0)) && (decide (e = 0))) && (decide (l = 0))) && (decide (a.Flags = 1))) && (decide (a.Int_ = 5))) && (decide (a.Temp = 1))) && (decide (c.Flags = 0))))] _ from ?_)
       refine wY (ym z) z ?_
       refine WL.cut 4 (σ := Unit) (fun _ w' => H = w') (fun _ => [(5, pt I 0), (8, pt p 0), (72, vB ((((((((decide (m = 0)) && (decide (e = 0))) && (decide (l = 0))) && (decide (a.Flags = 1))) && (decide (a.Int_ = 5))) && (decide (a.Temp = 1))) && (decide (c.Flags = 0))) && (decide (c.Int_ = 8))))]) ?_ ?_
       ·refine WL.part 68 z (fun az => ?_) (fun az => ?_)
        ·refine ug z z (wY (yf fo37_7 z) z (ug z z ?_))
         have dO := ap.st E z
         have dP := dO.st F z
         have dQ := dP.st G z
         have dR := dQ.st P z
         have dS := dR.st r z
         have dT := dS.st q z
         have dU := dT.st D z
         have dV := dU.st Q z
         refine wY (yl ty3 z z (dV.cell 7 _ z)) z (ug z z (wY (Y.eql_i z z) z (wY (Y.pick (b := true) z z) z (WL.ren (v' := vB ((((((((decide (m = 0)) && (decide (e = 0))) && (decide (l = 0))) && (decide (a.Flags = 1))) && (decide (a.Int_ = 5))) && (decide (a.Temp = 1))) && (decide (c.Flags = 0))) && (decide (c.Int_ = 8)))) 72 z (congrArg vB (andT az)) ?_))))
         exact nl (At.join () z (.cons z (.cons z (.cons z .nil))))
        ·refine WL.gS z z z z (WL.gS z z z z (WL.gS z z z z (wY (Y.pick (b := false) z z) z (WL.ren (v' := vB ((((((((decide (m = 0)) && (decide (e = 0))) && (decide (l = 0))) && (decide (a.Flags = 1))) && (decide (a.Int_ = 5))) && (decide (a.Temp = 1))) && (decide (c.Flags = 0))) && (decide (c.Int_ = 8)))) 72 z (congrArg vB (andF az)) ?_))))
         exact nl (At.join () z (.cons z (.cons z (.cons z .nil))))
       ·rintro _ _ rfl
        refine (show WL _ _ _ _ _ [(5, pt I 0), (8, pt p 0), (72, vB ((((((((decide (m = 0)) && (decide (e = 0))) && (decide (l = 0))) && (decide (a.Flags = 1))) && (decide (a.Int_ = 5))) && (decide (a.Temp = 1))) && (decide (c.Flags = 0))) && (decide (c.Int_ = 8))))] _ from ?_)
        refine wY (ym z) z ?_
        refine WL.cut 4 (σ := Unit) (fun _ w' => H = w') (fun _ => [(8, pt p 0), (77, vB (((((((((decide (m = 0)) && (decide (e = 0))) && (decide (l = 0))) && (decide (a.Flags = 1))) && (decide (a.Int_ = 5))) && (decide (a.Temp = 1))) && (decide (c.Flags = 0))) && (decide (c.Int_ = 8))) && (decide (c.Start = 0))))]) ?_ ?_
        ·refine WL.part 73 z (fun aA => ?_) (fun aA => ?_)
         ·refine ug z z (wY (yf fo37_5 z) z (ug z z ?_))
          have dW := ap.st E z
          have dX := dW.st F z
          have dY := dX.st G z
          have dZ := dY.st P z
          have d0 := dZ.st r z
          have d1 := d0.st q z
          have d2 := d1.st D z
          have d3 := d2.st Q z
          refine wY (yl ty3 z z (d3.cell 5 _ z)) z (ug z z (wY (Y.eql_i z z) z (wY (Y.pick (b := true) z z) z (WL.ren (v' := vB (((((((((decide (m = 0)) && (decide (e = 0))) && (decide (l = 0))) && (decide (a.Flags = 1))) && (decide (a.Int_ = 5))) && (decide (a.Temp = 1))) && (decide (c.Flags = 0))) && (decide (c.Int_ = 8))) && (decide (c.Start = 0)))) 77 z (congrArg vB (andT aA)) ?_))))
          exact nl (At.join () z (.cons z (.cons z .nil)))
         ·refine WL.gS z z z z (WL.gS z z z z (WL.gS z z z z (wY (Y.pick (b := false) z z) z (WL.ren (v' := vB (((((((((decide (m = 0)) && (decide (e = 0))) && (decide (l = 0))) && (decide (a.Flags = 1))) && (decide (a.Int_ = 5))) && (decide (a.Temp = 1))) && (decide (c.Flags = 0))) && (decide (c.Int_ = 8))) && (decide (c.Start = 0)))) 77 z (congrArg vB (andF aA)) ?_))))
          exact nl (At.join () z (.cons z (.cons z .nil)))
        ·rintro _ _ rfl
         refine (show WL _ _ _ _ _ [(8, pt p 0), (77, vB (((((((((decide (m = 0)) && (decide (e = 0))) && (decide (l = 0))) && (decide (a.Flags = 1))) && (decide (a.Int_ = 5))) && (decide (a.Temp = 1))) && (decide (c.Flags = 0))) && (decide (c.Int_ = 8))) && (decide (c.Start = 0))))] _ from ?_)
         refine wY (ym z) z ?_
         refine WL.cut 4 (σ := Unit) (fun _ w' => H = w') (fun _ => [(8, pt p 0), (82, vB ((((((((((decide (m = 0)) && (decide (e = 0))) && (decide (l = 0))) && (decide (a.Flags = 1))) && (decide (a.Int_ = 5))) && (decide (a.Temp = 1))) && (decide (c.Flags = 0))) && (decide (c.Int_ = 8))) && (decide (c.Start = 0))) && (decide (d.Flags = 8))))]) ?_ ?_
         ·refine WL.part 78 z (fun aC => ?_) (fun aC => ?_)
          ·refine ug z z (wY (yf fo37_11 z) z (ug z z (wY (yl ty3 z z (aq.cell 16 _ z)) z (ug z z (wY (Y.eql_i z z) z (wY (Y.pick (b := true) z z) z (WL.ren (v' := vB ((((((((((decide (m = 0)) && (decide (e = 0))) && (decide (l = 0))) && (decide (a.Flags = 1))) && (decide (a.Int_ = 5))) && (decide (a.Temp = 1))) && (decide (c.Flags = 0))) && (decide (c.Int_ = 8))) && (decide (c.Start = 0))) && (decide (d.Flags = 8)))) 82 z (congrArg vB (andT aC)) ?_)))))))
           exact nl (At.join () z (.cons z (.cons z .nil)))
          ·refine WL.gS z z z z (WL.gS z z z z (WL.gS z z z z (wY (Y.pick (b := false) z z) z (WL.ren (v' := vB ((((((((((decide (m = 0)) && (decide (e = 0))) && (decide (l = 0))) && (decide (a.Flags = 1))) && (decide (a.Int_ = 5))) && (decide (a.Temp = 1))) && (decide (c.Flags = 0))) && (decide (c.Int_ = 8))) && (decide (c.Start = 0))) && (decide (d.Flags = 8)))) 82 z (congrArg vB (andF aC)) ?_))))
           exact nl (At.join () z (.cons z (.cons z .nil)))
         ·rintro _ _ rfl
          refine (show WL _ _ _ _ _ [(8, pt p 0), (82, vB ((((((((((decide (m = 0)) && (decide (e = 0))) && (decide (l = 0))) && (decide (a.Flags = 1))) && (decide (a.Int_ = 5))) && (decide (a.Temp = 1))) && (decide (c.Flags = 0))) && (decide (c.Int_ = 8))) && (decide (c.Start = 0))) && (decide (d.Flags = 8))))] _ from ?_)
          refine wY (ym z) z ?_
          refine WL.cut 4 (σ := Unit) (fun _ w' => H = w') (fun _ => [(8, pt p 0), (87, vB (((((((((((decide (m = 0)) && (decide (e = 0))) && (decide (l = 0))) && (decide (a.Flags = 1))) && (decide (a.Int_ = 5))) && (decide (a.Temp = 1))) && (decide (c.Flags = 0))) && (decide (c.Int_ = 8))) && (decide (c.Start = 0))) && (decide (d.Flags = 8))) && (decide (d.Int_ = 2))))]) ?_ ?_
          ·refine WL.part 83 z (fun aD => ?_) (fun aD => ?_)
           ·refine ug z z (wY (yf fo37_7 z) z (ug z z (wY (yl ty3 z z (aq.cell 7 _ z)) z (ug z z (wY (Y.eql_i z z) z (wY (Y.pick (b := true) z z) z (WL.ren (v' := vB (((((((((((decide (m = 0)) && (decide (e = 0))) && (decide (l = 0))) && (decide (a.Flags = 1))) && (decide (a.Int_ = 5))) && (decide (a.Temp = 1))) && (decide (c.Flags = 0))) && (decide (c.Int_ = 8))) && (decide (c.Start = 0))) && (decide (d.Flags = 8))) && (decide (d.Int_ = 2)))) 87 z (congrArg vB (andT aD)) ?_)))))))
            exact nl (At.join () z (.cons z (.cons z .nil)))
           ·refine WL.gS z z z z (WL.gS z z z z (WL.gS z z z z (wY (Y.pick (b := false) z z) z (WL.ren (v' := vB (((((((((((decide (m = 0)) && (decide (e = 0))) && (decide (l = 0))) && (decide (a.Flags = 1))) && (decide (a.Int_ = 5))) && (decide (a.Temp = 1))) && (decide (c.Flags = 0))) && (decide (c.Int_ = 8))) && (decide (c.Start = 0))) && (decide (d.Flags = 8))) && (decide (d.Int_ = 2)))) 87 z (congrArg vB (andF aD)) ?_))))
            exact nl (At.join () z (.cons z (.cons z .nil)))
          ·rintro _ _ rfl
           refine (show WL _ _ _ _ _ [(8, pt p 0), (87, vB (((((((((((decide (m = 0)) && (decide (e = 0))) && (decide (l = 0))) && (decide (a.Flags = 1))) && (decide (a.Int_ = 5))) && (decide (a.Temp = 1))) && (decide (c.Flags = 0))) && (decide (c.Int_ = 8))) && (decide (c.Start = 0))) && (decide (d.Flags = 8))) && (decide (d.Int_ = 2))))] _ from ?_)
           refine wY (ym z) z ?_
           refine WL.cut 4 (σ := Unit) (fun _ w' => H = w') (fun _ => [(92, vB ((((((((((((decide (m = 0)) && (decide (e = 0))) && (decide (l = 0))) && (decide (a.Flags = 1))) && (decide (a.Int_ = 5))) && (decide (a.Temp = 1))) && (decide (c.Flags = 0))) && (decide (c.Int_ = 8))) && (decide (c.Start = 0))) && (decide (d.Flags = 8))) && (decide (d.Int_ = 2))) && (decide (d.Start = 25))))]) ?_ ?_
           ·refine WL.part 88 z (fun aE => ?_) (fun aE => ?_)
            ·refine ug z z (wY (yf fo37_5 z) z (ug z z (wY (yl ty3 z z (aq.cell 5 _ z)) z (ug z z (wY (Y.eql_i z z) z (wY (Y.pick (b := true) z z) z (WL.ren (v' := vB ((((((((((((decide (m = 0)) && (decide (e = 0))) && (decide (l = 0))) && (decide (a.Flags = 1))) && (decide (a.Int_ = 5))) && (decide (a.Temp = 1))) && (decide (c.Flags = 0))) && (decide (c.Int_ = 8))) && (decide (c.Start = 0))) && (decide (d.Flags = 8))) && (decide (d.Int_ = 2))) && (decide (d.Start = 25)))) 92 z (congrArg vB (andT aE)) ?_)))))))
             exact nl (At.join () z (.cons z .nil))
            ·refine WL.gS z z z z (WL.gS z z z z (WL.gS z z z z (wY (Y.pick (b := false) z z) z (WL.ren (v' := vB ((((((((((((decide (m = 0)) && (decide (e = 0))) && (decide (l = 0))) && (decide (a.Flags = 1))) && (decide (a.Int_ = 5))) && (decide (a.Temp = 1))) && (decide (c.Flags = 0))) && (decide (c.Int_ = 8))) && (decide (c.Start = 0))) && (decide (d.Flags = 8))) && (decide (d.Int_ = 2))) && (decide (d.Start = 25)))) 92 z (congrArg vB (andF aE)) ?_))))
             exact nl (At.join () z (.cons z .nil))
           ·rintro _ _ rfl
            refine (show WL _ _ _ _ _ [(92, vB ((((((((((((decide (m = 0)) && (decide (e = 0))) && (decide (l = 0))) && (decide (a.Flags = 1))) && (decide (a.Int_ = 5))) && (decide (a.Temp = 1))) && (decide (c.Flags = 0))) && (decide (c.Int_ = 8))) && (decide (c.Start = 0))) && (decide (d.Flags = 8))) && (decide (d.Int_ = 2))) && (decide (d.Start = 25))))] _ from ?_)
            obtain ⟨fU, d4, h⟩ := lt1 h
            refine WL.yE (ya z) (congrArg vB d4.symm) z (nl (th (rt ?_)))
            obtain rfl := some1 h
            have d5 : Stp [11, 12, 13, 14, 15, 16] (Lg.O0 (fun _ => False)) w fd H := (tr_ (su_ bm z) (tr_ (su_ bn z) (tr_ (su_ aG z) (tr_ (su_ X z) (tr_ (su_ S z) (tr_ (su_ T z) (tr_ (su_ aa z) (tr_ (su_ K z) (tr_ (su_ L z) (tr_ (su_ M z) (tr_ (su_ V z) (tr_ (su_ t z) (tr_ (su_ C z) (tr_ (su_ J z) (tr_ (su_ E z) (tr_ (su_ F z) (tr_ (su_ G z) (tr_ (su_ P z) (tr_ (su_ r z) (tr_ (su_ q z) (tr_ (su_ D z) (su_ Q z))))))))))))))))))))))
            exact At.res (.inl z) z (.tmp z .nil) ⟨z, (se_ d5 z z)⟩
theorem c_ref08_Light {A : Nat → Prop} {v0_3 : Value} {v0_5 : Value} {a0 : api_Hist} {w : World} (hs0_3 : Sl Rep.u w A v0_3 a0.Pos.Counts) (hs0_5 : Sl Rep.u w A v0_5 a0.Neg.Counts) {r0 : Bool} (h : ref08_Light a0 = some r0) : Rets Try.prog 18 [ag [vi a0.Scale, vu a0.Zero, vi a0.Pos.Offset, v0_3, vi a0.Neg.Offset, v0_5]] w (fun v w' => v = vB r0 ∧ Ext w w') := by
 unfold ref08_Light at h
 refine Rets.enter Try.func18 z z ?_
 have d : Sl Rep.u w (imm (Lg.O0 A)) v0_3 a0.Pos.Counts := (Sl.start hs0_3)
 have e : Sl Rep.u w (imm (Lg.O0 A)) v0_5 a0.Neg.Counts := (Sl.start hs0_5)
 refine (show WC _ _ _ _ [(0, ag [vi a0.Scale, vu a0.Zero, vi a0.Pos.Offset, v0_3, vi a0.Neg.Offset, v0_5])] _ from ?_)
 refine sq (rg ?_)
 have m := h
 obtain ⟨t, C, D, rfl⟩ := d.shape
 have h := m
 have n := h
 obtain ⟨E, F, G, rfl⟩ := e.shape
 have h := n
 refine WL.box (O := (Lg.O0 A)) 11 [vi a0.Scale, vu a0.Zero, vi a0.Pos.Offset, (Value.slice t C D), vi a0.Neg.Offset, (Value.slice E F G)] z z z ?_
 intro I H j a l
 refine wY (ya z) z (nl (th (sq (rg (wY (yf fo30_2 z) z (wY (yf fo28_1 z) z (wY (yl ty26 z z (l.cell 3 _ z)) z ?_)))))))
 have o := d.i a z z
 refine wY (Y.len ty26 z o) z (wY (Y.leq_i z z) z (wY (ym z) z ?_))
 refine WL.cut 6 (σ := Unit) (fun _ w' => j = w') (fun _ => [(14, vB ((decide ((a0.Pos.Counts.length : Int) ≤ 300)) && (decide ((a0.Neg.Counts.length : Int) ≤ 300))))]) ?_ ?_
 ·refine WL.part 8 z (fun c => ?_) (fun c => ?_)
  ·refine ug z z (wY (yf fo30_3 z) z (ug z z (wY (yf fo28_1 z) z (ug z z (wY (yl ty26 z z (l.cell 5 _ z)) z (ug z z ?_))))))
   have p := e.i a z z
   refine wY (Y.len ty26 z p) z (ug z z (wY (Y.leq_i z z) z (wY (Y.pick (b := true) z z) z (WL.ren (v' := vB ((decide ((a0.Pos.Counts.length : Int) ≤ 300)) && (decide ((a0.Neg.Counts.length : Int) ≤ 300)))) 14 z (congrArg vB (andT c)) ?_))))
   exact nl (At.join () z (.cons z .nil))
  ·refine WL.gS z z z z (WL.gS z z z z (WL.gS z z z z (WL.gS z z z z (WL.gS z z z z (wY (Y.pick (b := false) z z) z (WL.ren (v' := vB ((decide ((a0.Pos.Counts.length : Int) ≤ 300)) && (decide ((a0.Neg.Counts.length : Int) ≤ 300)))) 14 z (congrArg vB (andF c)) ?_))))))
   exact nl (At.join () z (.cons z .nil))
 ·rintro _ _ rfl
  refine (show WL _ _ _ _ _ [(14, vB ((decide ((a0.Pos.Counts.length : Int) ≤ 300)) && (decide ((a0.Neg.Counts.length : Int) ≤ 300))))] _ from ?_)
  obtain ⟨J, q, h⟩ := lt1 h
  refine WL.yE (ya z) (congrArg vB q.symm) z (nl (th (rt ?_)))
  obtain rfl := some1 h
  have r : Stp [] (Lg.O0 A) w H j := (su_ a z)
  exact At.res (.inl z) z (.tmp z .nil) ⟨z, (se_ r z z)⟩
theorem c_ref11_Light {A : Nat → Prop} {a0 : List api_Pair} {v0 : Value} {w : World} (hs0 : Sl rep_api_Pair w A v0 a0) {r0 : Bool} (h : ref11_Light a0 = some r0) : Rets Try.prog 42 [v0] w (fun v w' => v = vB r0 ∧ Ext w w') := by
 unfold ref11_Light at h
 refine Rets.enter Try.func42 z z ?_
 have a : Sl rep_api_Pair w (imm (Lg.O0 A)) v0 a0 := (Sl.start hs0)
 refine (show WC _ _ _ _ [(0, v0)] _ from ?_)
 refine sq (rg (wY (ya z) z (nl (th (sq (sq (rg (wY (ym z) z (wY (Y.len ty35 z a) z ?_)))))))))
 refine wY (Y.gtr_i z z) z (nl (th ?_))
 rcases cnd h with ⟨c, h⟩ | ⟨c, h⟩
 ·refine WC.condT' z c (sq (rg (wY (ya z) z (nl (th (rt (At.thenR ?_)))))))
  obtain rfl := some1 h
  have H : Stp [] (Lg.O0 A) w (Lg.O0 A) w := (sr_ _ _ _)
  exact At.res (.inl z) z (.tmp z .nil) ⟨z, (se_ H z z)⟩
 ·refine WC.condF' z c (sk (th (sq (sq (rg (wY (ya z) z (nl (th (WC.block ?_)))))))))
  obtain ⟨F, h, p⟩ := flow1 h
  obtain ⟨G, h⟩ := loop_some h
  refine WC.joinB 0 (σ := Unit) (fun x w' => F = .go () ∧ w = w') (fun x => []) ?_ ?_
  ·refine WC.loop (σ := Int) (fun x k w' => loopN k (ref11_Light_lp1 a0) x = some F ∧ w = w') (fun x => [(0, v0), (3, vi x)]) 0 G (.cons z (.cons z .nil)) ⟨h, z⟩ ?_
   rintro q G _ ⟨h, rfl⟩
   obtain ⟨aa, al, rfl, h, d⟩ := rnd1 h
   unfold ref11_Light_lp1 at h
   try dsimp only at h
   refine (show WC _ _ _ _ [(0, v0), (3, vi q)] _ from ?_)
   refine sq (sq (rg (wY (ym z) z (wY (ym z) z (wY (Y.len ty35 z a) z (wY (Y.lss_i z z) z (nl (th ?_))))))))
   rcases cnd h with ⟨e, h⟩ | ⟨e, h⟩
   ·refine WC.condT' z e (sk (th (sq (WC.block (sq (rg (wY (ym z) z (wY (ym z) z ?_))))))))
    obtain ⟨r, I, h⟩ := bnd h
    obtain ⟨am, ae, af, aj, J, K, L, j, t, M⟩ := Sl.at2 a I
    obtain ⟨_, _, rfl, rfl, rfl⟩ := t
    replace j : CellsAt _ _ _ [vs r.Key, vs r.Val] := j
    have C := CAt.imm j M
    refine wY (Y.indexAddr ty35 ty107 z J z K L) z (wY (yf fo107_0 z) z (wY (yl ty9 z z (C.at_.sub 0 [vs r.Key] z)) z (wY (Y.len_s ty9 z) z (wY (Y.gtr_i z z) z (wY (ym z) z ?_)))))
    obtain ⟨ab, h, P⟩ := bnd h
    refine WL.cut 8 (σ := Bool) (fun x w' => x = ab ∧ w = w') (fun x => [(0, v0), (3, vi q), (28, vB x)]) ?_ ?_
    ·rcases cnd h with ⟨l, h⟩ | ⟨l, h⟩
     ·refine WL.ren 20 z (congrArg vB l) (WL.gS z z z z (WL.gS z z z z (WL.gS z z z z (WL.gS z z z z (WL.gS z z z z (WL.gS z z z z (WL.gS z z z z (wY (Y.pick (b := true) z z) z ?_))))))))
      exact nl (At.join (σ := Bool) true ⟨some1 h, z⟩ (.cons z (.cons z (.cons z .nil))))
     ·refine WL.ren 20 z (congrArg vB l) (ug z z (wY (ym z) z (ug z z (wY (ym z) z (ug z z ?_)))))
      obtain ⟨o, Q, h⟩ := bnd h
      obtain ⟨an, ah, ai, ak, S, T, U, m, D, V⟩ := Sl.at2 a Q
      obtain ⟨_, _, rfl, rfl, rfl⟩ := D
      replace m : CellsAt _ _ _ [vs o.Key, vs o.Val] := m
      have E := CAt.imm m V
      refine wY (Y.indexAddr ty35 ty107 z S z T U) z (ug z z (wY (yf fo107_1 z) z (ug z z (wY (yl ty9 z z (E.at_.sub 1 [vs o.Val] z)) z (ug z z (wY (Y.len_s ty9 z) z (ug z z (wY (Y.gtr_i z z) z (wY (Y.pick (b := false) z z) z ?_)))))))))
      exact nl (At.join (σ := Bool) (decide (100 < (o.Val.length : Int))) ⟨some1 h, z⟩ (.cons z (.cons z (.cons z .nil))))
    ·rintro ac _ ⟨rfl, rfl⟩
     replace h := P
     try dsimp only at h
     refine (show WL _ _ _ _ _ [(0, v0), (3, vi q), (28, vB ac)] _ from ?_)
     refine nl (th ?_)
     rcases cnd h with ⟨n, h⟩ | ⟨n, h⟩
     ·refine WC.condT' z n (sq (rg (wY (ya z) z (nl (th (rt (At.inBlockR (At.thenR (At.loopR ?_)))))))))
      have h := outr1 h d p
      refine At.joinBR (At.inBlockR (At.thenR ?_))
      obtain rfl := some1 h
      have W : Stp [] (Lg.O0 A) w (Lg.O0 A) w := (sr_ _ _ _)
      exact At.res (.inl z) z (.tmp z .nil) ⟨z, (se_ W z z)⟩
     ·refine WC.condF' z n (sk (At.inBlock (th (rg (wY (ym z) z (wY (Y.add_i z z) z ?_))))))
      obtain ⟨ad, X, h⟩ := lt1 h
      refine WL.yE (ya z) (congrArg vi X.symm) z (nl ?_)
      exact At.round ad aa (Nat.lt_succ_self _) ⟨next1 h d, z⟩ (.cons z (.cons z .nil))
   ·refine WC.condF' z e (WC.exit (At.thenX (At.loopX ?_)))
    exact At.hitB (σ := Unit) () ⟨brk1 h d, z⟩ .nil
  ·rintro _ _ ⟨rfl, rfl⟩
   replace h := flowK_go p
   refine (show At _ _ _ [] _ from ?_)
   refine At.inBlockHit (th (sq (rg (wY (ya z) z (nl (th (rt ?_)))))))
   obtain rfl := some1 h
   have Z : Stp [] (Lg.O0 A) w (Lg.O0 A) w := (sr_ _ _ _)
   exact At.res (.inl z) z (.tmp z .nil) ⟨z, (se_ Z z z)⟩
theorem c_ref12_Light {A : Nat → Prop} {v0_1 : Value} {v0_13 : Value} {v0_15 : Value} {a0 : api_Point} {w : World} (hs0_1 : Sl rep_api_Pair w A v0_1 a0.Attrs) (hs0_13 : Sl Rep.u w A v0_13 a0.Hist.Pos.Counts) (hs0_15 : Sl Rep.u w A v0_15 a0.Hist.Neg.Counts) {r0 : Bool} (h : ref12_Light a0 = some r0) : Rets Try.prog 17 [ag [vs a0.Name, v0_1, vi a0.Kind, vi a0.Temp, vB a0.Mono, vi a0.Start, vi a0.Time, vi a0.Int_, vu a0.Re, vu a0.Im, vi a0.Hist.Scale, vu a0.Hist.Zero, vi a0.Hist.Pos.Offset, v0_13, vi a0.Hist.Neg.Offset, v0_15, vi a0.Flags]] w (fun v w' => v = vB r0 ∧ Ext w w') := by
 unfold ref12_Light at h
 refine Rets.enter Try.func17 z z ?_
 have m : Sl rep_api_Pair w (imm (Lg.O0 A)) v0_1 a0.Attrs := (Sl.start hs0_1)
 have n : Sl Rep.u w (imm (Lg.O0 A)) v0_13 a0.Hist.Pos.Counts := (Sl.start hs0_13)
 have o : Sl Rep.u w (imm (Lg.O0 A)) v0_15 a0.Hist.Neg.Counts := (Sl.start hs0_15)
 refine (show WC _ _ _ _ [(0, ag [vs a0.Name, v0_1, vi a0.Kind, vi a0.Temp, vB a0.Mono, vi a0.Start, vi a0.Time, vi a0.Int_, vu a0.Re, vu a0.Im, vi a0.Hist.Scale, vu a0.Hist.Zero, vi a0.Hist.Pos.Offset, v0_13, vi a0.Hist.Neg.Offset, v0_15, vi a0.Flags])] _ from ?_)
 refine sq (rg ?_)
 have M := h
 obtain ⟨I, J, K, rfl⟩ := m.shape
 have h := M
 have P := h
 obtain ⟨p, q, r, rfl⟩ := n.shape
 have h := P
 have Q := h
 obtain ⟨t, C, D, rfl⟩ := o.shape
 have h := Q
 refine WL.box (O := (Lg.O0 A)) 11 [vs a0.Name, (Value.slice I J K), vi a0.Kind, vi a0.Temp, vB a0.Mono, vi a0.Start, vi a0.Time, vi a0.Int_, vu a0.Re, vu a0.Im, vi a0.Hist.Scale, vu a0.Hist.Zero, vi a0.Hist.Pos.Offset, (Value.slice p q r), vi a0.Hist.Neg.Offset, (Value.slice t C D), vi a0.Flags] z z z ?_
 intro L E S c d
 refine wY (ya z) z (nl (th (sq (rg (wY (yf fo37_0 z) z (wY (yl ty9 z z (d.cell 0 _ z)) z (wY (Y.len_s ty9 z) z (wY (Y.leq_i z z) z (wY (ym z) z ?_)))))))))
 obtain ⟨ak, h, T⟩ := bnd h
 refine WL.cut 4 (σ := (Bool × Own)) (fun x w' => x.1 = ak ∧ Stp [] E S x.2 w') (fun x => [(1, pt L 0), (11, vB x.1)]) ?_ ?_
 ·rcases cnd h with ⟨e, h⟩ | ⟨e, h⟩
  ·refine WL.ren 7 z (congrArg vB e) (ug z z (wY (yf fo37_1 z) z (ug z z (wY (yl ty35 z z (d.cell 1 _ z)) z (ug z z ?_)))))
   have U := m.i c z z
   obtain ⟨al, V, h⟩ := bnd h
   refine WL.call (vals := [(Value.slice I J K)]) kok42 z z (c_ref11_Light (A := fun _ => True) (Sl.all U) V) ?_
   rintro az aA ⟨rfl, W⟩
   obtain ⟨am, an, ao, G⟩ := adoptE E (fun k => 1) W
   refine wY (Y.pick (b := true) z z) z ?_
   exact nl (At.join (σ := (Bool × Own)) (al, am) ⟨some1 h, (su_ G z)⟩ (.cons z (.cons z .nil)))
  ·refine WL.ren 7 z (congrArg vB e) (WL.gS z z z z (WL.gS z z z z (WL.gS z z z z (wY (Y.pick (b := false) z z) z ?_))))
   exact nl (At.join (σ := (Bool × Own)) (false, E) ⟨some1 h, (sr_ _ _ _)⟩ (.cons z (.cons z .nil)))
 ·rintro ⟨ap, F⟩ X ⟨rfl, a⟩
  replace h := T
  try dsimp only at h a
  refine (show WL _ _ _ _ _ [(1, pt L 0), (11, vB ap)] _ from ?_)
  refine wY (ym z) z ?_
  obtain ⟨aq, h, Z⟩ := bnd h
  refine WL.cut 4 (σ := (Bool × Own)) (fun x w' => x.1 = aq ∧ Stp [] F X x.2 w') (fun x => [(16, vB x.1)]) ?_ ?_
  ·rcases cnd h with ⟨j, h⟩ | ⟨j, h⟩
   ·refine WL.ren 12 z (congrArg vB j) (ug z z (wY (yf fo37_10 z) z (ug z z ?_)))
    have aa := d.st a z
    refine wY (yL ty30 z z (aa.cells 10 [vi a0.Hist.Scale, vu a0.Hist.Zero, vi a0.Hist.Pos.Offset, (Value.slice p q r), vi a0.Hist.Neg.Offset, (Value.slice t C D)] z) z) z (ug z z ?_)
    have ab := n.i c z z
    have ac := ab.i a z z
    have ad := o.i c z z
    have ae := ad.i a z z
    obtain ⟨ar, af, h⟩ := bnd h
    refine WL.call (vals := [ag [vi a0.Hist.Scale, vu a0.Hist.Zero, vi a0.Hist.Pos.Offset, (Value.slice p q r), vi a0.Hist.Neg.Offset, (Value.slice t C D)]]) kok18 z z (c_ref08_Light (A := fun _ => True) (a0 := a0.Hist) (Sl.all ac) (Sl.all ae) af) ?_
    rintro aC aD ⟨rfl, ah⟩
    obtain ⟨au, av, aw, H⟩ := adoptE F (fun k => 1) ah
    refine wY (Y.pick (b := true) z z) z ?_
    exact nl (At.join (σ := (Bool × Own)) (ar, au) ⟨some1 h, (su_ H z)⟩ (.cons z .nil))
   ·refine WL.ren 12 z (congrArg vB j) (WL.gS z z z z (WL.gS z z z z (WL.gS z z z z (wY (Y.pick (b := false) z z) z ?_))))
    exact nl (At.join (σ := (Bool × Own)) (false, F) ⟨some1 h, (sr_ _ _ _)⟩ (.cons z .nil))
  ·rintro ⟨ax, ay⟩ ai ⟨rfl, l⟩
   replace h := Z
   try dsimp only at h l
   refine (show WL _ _ _ _ _ [(16, vB ax)] _ from ?_)
   refine wY (ya z) z (nl (th (rt ?_)))
   obtain rfl := some1 h
   have aj : Stp [] (Lg.O0 A) w ay ai := (tr_ (su_ c z) (tr_ (su_ a z) (su_ l z)))
   exact At.res (.inl z) z (.tmp z .nil) ⟨z, (se_ aj z z)⟩
theorem c_ref12_Some {A : Nat → Prop} {a0 : List api_Point} {v0 : Value} {a1 : Int} {w : World} (hs0 : Sl rep_api_Point w A v0 a0) {r0 : Bool} (h : ref12_Some a0 a1 = some r0) : Rets Try.prog 34 [v0, vi a1] w (fun v w' => v = vB r0 ∧ Ext w w') := by
 unfold ref12_Some at h
 refine Rets.enter Try.func34 z z ?_
 have o : Sl rep_api_Point w (imm (Lg.O0 A)) v0 a0 := (Sl.start hs0)
 refine (show WC _ _ _ _ [(0, v0), (1, vi a1)] _ from ?_)
 refine sq (rg (wY (ya z) z (nl (th (sq (sq (rg (wY (ym z) z (wY (Y.len ty22 z o) z ?_)))))))))
 refine wY (ym z) z (wY (Y.gtr_i z z) z (nl (th ?_)))
 rcases cnd h with ⟨d, h⟩ | ⟨d, h⟩
 ·refine WC.condT' z d (sq (rg (wY (ya z) z (nl (th (rt (At.thenR ?_)))))))
  obtain rfl := some1 h
  have K : Stp [] (Lg.O0 A) w (Lg.O0 A) w := (sr_ _ _ _)
  exact At.res (.inl z) z (.tmp z .nil) ⟨z, (se_ K z z)⟩
 ·refine WC.condF' z d (sk (th (sq (sq (rg (wY (ya z) z (nl (th (WC.block ?_)))))))))
  obtain ⟨D, h, p⟩ := flow1 h
  obtain ⟨E, h⟩ := loop_some h
  refine WC.joinB 0 (σ := Own) (fun x w' => D = .go () ∧ Stp [] (Lg.O0 A) w x w') (fun x => []) ?_ ?_
  ·refine WC.loop (σ := (Int × Own)) (fun x k w' => loopN k (ref12_Some_lp1 a0) x.1 = some D ∧ Stp [] (Lg.O0 A) w x.2 w') (fun x => [(0, v0), (5, vi x.1)]) (0, (Lg.O0 A)) E (.cons z (.cons z .nil)) ⟨h, (sr_ _ _ _)⟩ ?_
   rintro ⟨ae, F⟩ E an ⟨h, c⟩
   obtain ⟨af, aq, rfl, h, e⟩ := rnd1 h
   unfold ref12_Some_lp1 at h
   try dsimp only at h c
   refine (show WC _ _ _ _ [(0, v0), (5, vi ae)] _ from ?_)
   refine sq (sq (rg (wY (ym z) z (wY (ym z) z ?_))))
   have q := o.i c z z
   refine wY (Y.len ty22 z q) z (wY (Y.lss_i z z) z (nl (th ?_)))
   rcases cnd h with ⟨j, h⟩ | ⟨j, h⟩
   ·refine WC.condT' z j (sk (th (sq (WC.block (sq (rg (wY (ym z) z (wY (ym z) z ?_))))))))
    obtain ⟨a, L, h⟩ := bnd h
    obtain ⟨ar, al, am, ao, M, P, Q, l, r, S⟩ := Sl.at2 q L
    obtain ⟨_, _, rfl, rfl, ⟨_, _, rfl, ⟨G, rfl, T⟩, ⟨_, _, rfl, rfl, ⟨_, _, rfl, rfl, ⟨_, _, rfl, rfl, ⟨_, _, rfl, rfl, ⟨_, _, rfl, rfl, ⟨_, _, rfl, rfl, ⟨_, _, rfl, rfl, ⟨_, _, rfl, rfl, ⟨_, _, rfl, ⟨_, _, rfl, rfl, ⟨_, _, rfl, rfl, ⟨_, _, rfl, ⟨_, _, rfl, rfl, ⟨H, rfl, U⟩⟩, ⟨_, _, rfl, rfl, ⟨I, rfl, V⟩⟩⟩⟩⟩, rfl⟩⟩⟩⟩⟩⟩⟩⟩⟩⟩⟩ := r
    replace l : CellsAt _ _ _ [vs a.Name, G, vi a.Kind, vi a.Temp, vB a.Mono, vi a.Start, vi a.Time, vi a.Int_, vu a.Re, vu a.Im, vi a.Hist.Scale, vu a.Hist.Zero, vi a.Hist.Pos.Offset, H, vi a.Hist.Neg.Offset, I, vi a.Flags] := l
    have t := CAt.imm l S
    refine wY (Y.indexAddr ty22 ty37 z M z P Q) z (wY (yL ty37 z z t.at_ z) z ?_)
    obtain ⟨au, W, h⟩ := bnd h
    refine WL.call (vals := [ag [vs a.Name, G, vi a.Kind, vi a.Temp, vB a.Mono, vi a.Start, vi a.Time, vi a.Int_, vu a.Re, vu a.Im, vi a.Hist.Scale, vu a.Hist.Zero, vi a.Hist.Pos.Offset, H, vi a.Hist.Neg.Offset, I, vi a.Flags]]) kok17 z z (c_ref12_Light (A := fun _ => True) (a0 := a) (Sl.all T) (Sl.all U) (Sl.all V) W) ?_
    rintro ap X ⟨rfl, Z⟩
    obtain ⟨J, ah, ai, n⟩ := adoptE F (fun k => 1) Z
    refine wY (Y.not z) z (nl (th ?_))
    rcases cnd h with ⟨m, h⟩ | ⟨m, h⟩
    ·refine WC.condT' z m (sq (rg (wY (ya z) z (nl (th (rt (At.inBlockR (At.thenR (At.loopR ?_)))))))))
     have h := outr1 h e p
     refine At.joinBR (At.inBlockR (At.thenR ?_))
     obtain rfl := some1 h
     have aa : Stp [] (Lg.O0 A) w J X := (tr_ (su_ c z) (su_ n z))
     exact At.res (.inl z) z (.tmp z .nil) ⟨z, (se_ aa z z)⟩
    ·refine WC.condF' z m (sk (At.inBlock (th (rg (wY (ym z) z (wY (Y.add_i z z) z ?_))))))
     obtain ⟨aj, ab, h⟩ := lt1 h
     refine WL.yE (ya z) (congrArg vi ab.symm) z (nl ?_)
     exact At.round (aj, J) af (Nat.lt_succ_self _) ⟨next1 h e, (tr_ (su_ c z) (su_ n z))⟩ (.cons z (.cons z .nil))
   ·refine WC.condF' z j (WC.exit (At.thenX (At.loopX ?_)))
    exact At.hitB (σ := Own) F ⟨brk1 h e, (su_ c z)⟩ .nil
  ·rintro ak ac ⟨rfl, C⟩
   replace h := flowK_go p
   refine (show At _ _ _ [] _ from ?_)
   refine At.inBlockHit (th (sq (rg (wY (ya z) z (nl (th (rt ?_)))))))
   obtain rfl := some1 h
   have ad : Stp [] (Lg.O0 A) w ak ac := (su_ C z)
   exact At.res (.inl z) z (.tmp z .nil) ⟨z, (se_ ad z z)⟩
theorem c_law16_one {A : Nat → Prop} {a0 : List api_Point} {v0 : Value} {w : World} (hs0 : Sl rep_api_Point w A v0 a0) {r0 : Bool} (h : law16_one a0 = some r0) : Rets Try.prog 29 [v0] w (fun v w' => v = vB r0 ∧ Ext w w') := by
 unfold law16_one at h
 refine Rets.enter Try.func29 z z ?_
 have K : Sl rep_api_Point w (imm (Lg.O0 A)) v0 a0 := (Sl.start hs0)
 refine (show WC _ _ _ _ [(0, v0)] _ from ?_)
 refine sq (rg (wY (ya z) z (nl (th (sq (sq (rg (wY (ym z) z ?_))))))))
 obtain ⟨bR, aD, h⟩ := bnd h
 refine WL.call (vals := [v0, vi 20]) kok34 z z (c_ref12_Some (A := fun _ => True) (Sl.all K) aD) ?_
 rintro bA C ⟨rfl, aE⟩
 obtain ⟨I, a4, a5, m⟩ := adoptE (Lg.O0 A) (fun k => 1) aE
 refine wY (Y.not z) z (nl (th ?_))
 rcases cnd h with ⟨D, h⟩ | ⟨D, h⟩
 ·refine WC.condT' z D (sq (rg (wY (ya z) z (nl (th (rt (At.thenR ?_)))))))
  obtain rfl := some1 h
  have aF : Stp [] (Lg.O0 A) w I C := (su_ m z)
  exact At.res (.inl z) z (.tmp z .nil) ⟨z, (se_ aF z z)⟩
 ·refine WC.condF' z D (sk (th (sq (sq (rg (wY (ya z) z (nl (th (WC.block ?_)))))))))
  obtain ⟨aA, h, L⟩ := flow1 h
  obtain ⟨aC, h⟩ := loop_some h
  refine WC.joinB 0 (σ := Own) (fun x w' => aA = .go () ∧ Stp [] I C x w') (fun x => []) ?_ ?_
  ·refine WC.loop (σ := (Int × Own)) (fun x k w' => loopN k (law16_one_lp1 a0) x.1 = some aA ∧ Stp [] I C x.2 w') (fun x => [(0, v0), (3, vi x.1)]) (0, I) aC (.cons z (.cons z .nil)) ⟨h, (sr_ _ _ _)⟩ ?_
   rintro ⟨M, t⟩ aC bB ⟨h, j⟩
   obtain ⟨a6, bS, rfl, h, E⟩ := rnd1 h
   unfold law16_one_lp1 at h
   try dsimp only at h j
   refine (show WC _ _ _ _ [(0, v0), (3, vi M)] _ from ?_)
   refine sq (sq (rg (wY (ym z) z (wY (ym z) z ?_))))
   have aG := K.i m z z
   have P := aG.i j z z
   refine wY (Y.len ty22 z P) z (wY (Y.lss_i z z) z (nl (th ?_)))
   rcases cnd h with ⟨F, h⟩ | ⟨F, h⟩
   ·refine WC.condT' z F (sk (th (sq (WC.block (sq (WC.drawH [] [0, 1, 2, 3, 4, 5, 6, 7, 8, 9, 10, 11, 12, 13, 14, 15, 16, 17, 18, 19, 20, 21] t 22 fmix z (by kernel_rfl) ?_))))))
    intro Q n
    refine WD.y 0 z (by kernel_rfl) (fun _ _ _ => ym z) z (WD.y 1 z (by kernel_rfl) (fun _ _ _ => ym z) z ?_)
    obtain ⟨d, aH, h⟩ := bnd h
    have o := P.i n z z
    obtain ⟨bT, bj, bk, bC, aI, aJ, aK, G, aa, aL⟩ := Sl.at2 o aH
    obtain ⟨_, _, rfl, rfl, ⟨_, _, rfl, ⟨a7, rfl, bD⟩, ⟨_, _, rfl, rfl, ⟨_, _, rfl, rfl, ⟨_, _, rfl, rfl, ⟨_, _, rfl, rfl, ⟨_, _, rfl, rfl, ⟨_, _, rfl, rfl, ⟨_, _, rfl, rfl, ⟨_, _, rfl, rfl, ⟨_, _, rfl, ⟨_, _, rfl, rfl, ⟨_, _, rfl, rfl, ⟨_, _, rfl, ⟨_, _, rfl, rfl, ⟨a8, rfl, bE⟩⟩, ⟨_, _, rfl, rfl, ⟨a9, rfl, bF⟩⟩⟩⟩⟩, rfl⟩⟩⟩⟩⟩⟩⟩⟩⟩⟩⟩ := aa
    replace G : CellsAt _ _ _ [vs d.Name, a7, vi d.Kind, vi d.Temp, vB d.Mono, vi d.Start, vi d.Time, vi d.Int_, vu d.Re, vu d.Im, vi d.Hist.Scale, vu d.Hist.Zero, vi d.Hist.Pos.Offset, a8, vi d.Hist.Neg.Offset, a9, vi d.Flags] := G
    have ab := CAt.imm G aL
    refine WD.y 2 z (by kernel_rfl) (fun _ _ _ => Y.indexAddr ty22 ty37 z aI z aJ aK) z (WD.y 3 z (by kernel_rfl) (fun _ _ _ => yf fo37_2 z) z (WD.y 4 z (by kernel_rfl) (fun bG bU ac => have aM := ab.st ac z; yl ty3 z z (aM.at_.sub 2 [vi d.Kind] z)) z (WD.y 5 z (by kernel_rfl) (fun _ _ _ => ym z) z ?_)))
    obtain ⟨e, aN, h⟩ := bnd h
    obtain ⟨bW, bl, bm, bH, aO, aP, aQ, H, ad, aR⟩ := Sl.at2 o aN
    obtain ⟨_, _, rfl, rfl, ⟨_, _, rfl, ⟨ba, rfl, bI⟩, ⟨_, _, rfl, rfl, ⟨_, _, rfl, rfl, ⟨_, _, rfl, rfl, ⟨_, _, rfl, rfl, ⟨_, _, rfl, rfl, ⟨_, _, rfl, rfl, ⟨_, _, rfl, rfl, ⟨_, _, rfl, rfl, ⟨_, _, rfl, ⟨_, _, rfl, rfl, ⟨_, _, rfl, rfl, ⟨_, _, rfl, ⟨_, _, rfl, rfl, ⟨bb, rfl, bJ⟩⟩, ⟨_, _, rfl, rfl, ⟨bc, rfl, bK⟩⟩⟩⟩⟩, rfl⟩⟩⟩⟩⟩⟩⟩⟩⟩⟩⟩ := ad
    replace H : CellsAt _ _ _ [vs e.Name, ba, vi e.Kind, vi e.Temp, vB e.Mono, vi e.Start, vi e.Time, vi e.Int_, vu e.Re, vu e.Im, vi e.Hist.Scale, vu e.Hist.Zero, vi e.Hist.Pos.Offset, bb, vi e.Hist.Neg.Offset, bc, vi e.Flags] := H
    have ae := CAt.imm H aR
    refine WD.y 6 z (by kernel_rfl) (fun _ _ _ => Y.indexAddr ty22 ty37 z aO z aP aQ) z (WD.y 7 z (by kernel_rfl) (fun _ _ _ => yf fo37_2 z) z (WD.y 8 z (by kernel_rfl) (fun bn bL S => have af := ae.st S z; yl ty3 z z (af.at_.sub 2 [vi e.Kind] z)) z (WD.y 9 z (by kernel_rfl) (fun _ _ _ => Y.neq_i z z) z (WD.y 10 z (by kernel_rfl) (fun _ _ _ => ym z) z ?_))))
    obtain ⟨aS, h, ah⟩ := bnd h
    refine WD.join (σ := Bool) (f' := 0) [21, 20, 19, 18, 17, 16, 15, 14, 13, 12, 11, 10, 9, 8, 7, 6, 5, 4, 3, 2, 1, 0] (fun x O' w' => x = aS ∧ Q = w' ∧ t = O') (fun x => [(0, v0), (3, vi M), (34, vB x)]) (fun J => ?_) ?_
    ·rcases cnd h with ⟨l, h⟩ | ⟨l, h⟩
     ·refine WD.ren 23 z (congrArg vB l) (WD.gS 11 z (by kernel_rfl) z z z z (WD.gS 12 z (by kernel_rfl) z z z z (WD.gS 13 z (by kernel_rfl) z z z z (WD.gS 14 z (by kernel_rfl) z z z z (WD.gS 15 z (by kernel_rfl) z z z z (WD.gS 16 z (by kernel_rfl) z z z z (WD.gS 17 z (by kernel_rfl) z z z z (WD.gS 18 z (by kernel_rfl) z z z z (WD.gS 19 z (by kernel_rfl) z z z z ?_)))))))))
      refine WD.gS 20 z (by kernel_rfl) z z z z (WD.y 21 z (by kernel_rfl) (fun _ _ _ => Y.pick (b := true) z z) z (WD.ren 23 z (congrArg vB l.symm) ?_))
      exact J true _ _ _ ⟨some1 h, z, z⟩ (.cons z (.cons z (.cons z .nil)))
     ·refine WD.ren 23 z (congrArg vB l) (WD.gT 11 z (by kernel_rfl) z z (fun _ _ _ => ym z) z (WD.gT 12 z (by kernel_rfl) z z (fun _ _ _ => ym z) z ?_))
      obtain ⟨a, ai, h⟩ := bnd h
      obtain ⟨bM, bd, bf, bo, aj, ak, al, p, T, am⟩ := Sl.at2 o ai
      obtain ⟨_, _, rfl, rfl, ⟨_, _, rfl, ⟨aT, rfl, bp⟩, ⟨_, _, rfl, rfl, ⟨_, _, rfl, rfl, ⟨_, _, rfl, rfl, ⟨_, _, rfl, rfl, ⟨_, _, rfl, rfl, ⟨_, _, rfl, rfl, ⟨_, _, rfl, rfl, ⟨_, _, rfl, rfl, ⟨_, _, rfl, ⟨_, _, rfl, rfl, ⟨_, _, rfl, rfl, ⟨_, _, rfl, ⟨_, _, rfl, rfl, ⟨aU, rfl, bq⟩⟩, ⟨_, _, rfl, rfl, ⟨aW, rfl, br⟩⟩⟩⟩⟩, rfl⟩⟩⟩⟩⟩⟩⟩⟩⟩⟩⟩ := T
      replace p : CellsAt _ _ _ [vs a.Name, aT, vi a.Kind, vi a.Temp, vB a.Mono, vi a.Start, vi a.Time, vi a.Int_, vu a.Re, vu a.Im, vi a.Hist.Scale, vu a.Hist.Zero, vi a.Hist.Pos.Offset, aU, vi a.Hist.Neg.Offset, aW, vi a.Flags] := p
      have U := CAt.imm p am
      refine WD.gT 13 z (by kernel_rfl) z z (fun _ _ _ => Y.indexAddr ty22 ty37 z aj z ak al) z (WD.gT 14 z (by kernel_rfl) z z (fun _ _ _ => yf fo37_4 z) z (WD.gT 15 z (by kernel_rfl) z z (fun bs bO V => have an := U.st V z; yl ty4 z z (an.at_.sub 4 [vB a.Mono] z)) z (WD.gT 16 z (by kernel_rfl) z z (fun _ _ _ => ym z) z ?_)))
      obtain ⟨c, ao, h⟩ := bnd h
      obtain ⟨bP, bg, bh, bt, ap, aq, ar, q, W, au⟩ := Sl.at2 o ao
      obtain ⟨_, _, rfl, rfl, ⟨_, _, rfl, ⟨aX, rfl, bu⟩, ⟨_, _, rfl, rfl, ⟨_, _, rfl, rfl, ⟨_, _, rfl, rfl, ⟨_, _, rfl, rfl, ⟨_, _, rfl, rfl, ⟨_, _, rfl, rfl, ⟨_, _, rfl, rfl, ⟨_, _, rfl, rfl, ⟨_, _, rfl, ⟨_, _, rfl, rfl, ⟨_, _, rfl, rfl, ⟨_, _, rfl, ⟨_, _, rfl, rfl, ⟨aY, rfl, bw⟩⟩, ⟨_, _, rfl, rfl, ⟨aZ, rfl, bx⟩⟩⟩⟩⟩, rfl⟩⟩⟩⟩⟩⟩⟩⟩⟩⟩⟩ := W
      replace q : CellsAt _ _ _ [vs c.Name, aX, vi c.Kind, vi c.Temp, vB c.Mono, vi c.Start, vi c.Time, vi c.Int_, vu c.Re, vu c.Im, vi c.Hist.Scale, vu c.Hist.Zero, vi c.Hist.Pos.Offset, aY, vi c.Hist.Neg.Offset, aZ, vi c.Flags] := q
      have X := CAt.imm q au
      refine WD.gT 17 z (by kernel_rfl) z z (fun _ _ _ => Y.indexAddr ty22 ty37 z ap z aq ar) z (WD.gT 18 z (by kernel_rfl) z z (fun _ _ _ => yf fo37_4 z) z (WD.gT 19 z (by kernel_rfl) z z (fun bz bQ Z => have av := X.st Z z; yl ty4 z z (av.at_.sub 4 [vB c.Mono] z)) z (WD.gT 20 z (by kernel_rfl) z z (fun _ _ _ => Y.neqB z z ty4.u) z (WD.y 21 z (by kernel_rfl) (fun _ _ _ => Y.pick (b := false) z z) z (WD.ren 23 z (congrArg vB l.symm) ?_)))))
      exact J (!decide (a.Mono = c.Mono)) _ _ _ ⟨some1 h, z, z⟩ (.cons z (.cons z (.cons z .nil)))
    ·rintro a1 _ _ ⟨rfl, rfl, rfl⟩
     replace h := ah
     try dsimp only at h
     refine (show WD _ _ _ _ _ _ _ _ [(0, v0), (3, vi M), (34, vB a1)] _ _ from ?_)
     refine WD.done_ (by kernel_rfl) (th ?_)
     rcases cnd h with ⟨r, h⟩ | ⟨r, h⟩
     ·refine WC.condT' z r (sq (rg (wY (ya z) z (nl (th (rt (At.inBlockR (At.thenR (At.loopR ?_)))))))))
      have h := outr1 h E L
      refine At.joinBR (At.inBlockR (At.thenR ?_))
      obtain rfl := some1 h
      have aw : Stp [] (Lg.O0 A) w t Q := (tr_ (su_ m z) (tr_ (su_ j z) (su_ n z)))
      exact At.res (.inl z) z (.tmp z .nil) ⟨z, (se_ aw z z)⟩
     ·refine WC.condF' z r (sk (At.inBlock (th (rg (wY (ym z) z (wY (Y.add_i z z) z ?_))))))
      obtain ⟨a2, ax, h⟩ := lt1 h
      refine WL.yE (ya z) (congrArg vi ax.symm) z (nl ?_)
      exact At.round (a2, t) a6 (Nat.lt_succ_self _) ⟨next1 h E, (tr_ (su_ j z) (su_ n z))⟩ (.cons z (.cons z .nil))
   ·refine WC.condF' z F (WC.exit (At.thenX (At.loopX ?_)))
    exact At.hitB (σ := Own) t ⟨brk1 h E, (su_ j z)⟩ .nil
  ·rintro bi a3 ⟨rfl, ay⟩
   replace h := flowK_go L
   refine (show At _ _ _ [] _ from ?_)
   refine At.inBlockHit (th (sq (rg (wY (ya z) z (nl (th (rt ?_)))))))
   obtain rfl := some1 h
   have az : Stp [] (Lg.O0 A) w bi a3 := (tr_ (su_ m z) (su_ ay z))
   exact At.res (.inl z) z (.tmp z .nil) ⟨z, (se_ az z z)⟩
theorem c_law16_play {A : Nat → Prop} {a0 : List api_Point} {v0 : Value} {a1 : Int} {w : World} (hs0 : Sl rep_api_Point w A v0 a0) {r0 : List api_Point} {r1 : List api_Point} (h : law16_play a0 a1 = some (r0, r1)) : Rets Try.prog 30 [v0, vi a1] w (fun v w' => ∃ (u0 : Value) (u1 : Value), v = tp [u0, u1] ∧ Ext w w' ∧ Sl rep_api_Point w' (fun k => A k ∨ w.heap.size ≤ k) u0 r0 ∧ Sl rep_api_Point w' (fun k => A k ∨ w.heap.size ≤ k) u1 r1) := by
 unfold law16_play at h
 refine Rets.enter Try.func30 z z ?_
 have jV : Sl rep_api_Point w (imm (Lg.O0 A)) v0 a0 := (Sl.start hs0)
 refine (show WC _ _ _ _ [(0, v0), (1, vi a1)] _ from ?_)
 refine sq (rg (wY (ya z) z (wY (ya z) z (nl (th (sq (rg (wY (ya z) z (wY (ya z) z ?_)))))))))
 refine nl (th (sq (rg (wY (yb (vals := []) (cells := [vB false, vi 0, vi 0, vi 0, vu 0, vu 0, vi 0, vu 0, vi 0, Value.slice none 0 0, vi 0, Value.slice none 0 0]) (fe_ z) (by kernel_rfl)) z (WL.alloc (O := (Lg.O0 A)) 11 [vB false, vi 0, vi 0, vi 0, vu 0, vu 0, vi 0, vu 0, vi 0, Value.slice none 0 0, vi 0, Value.slice none 0 0] ty32 z z ?_)))))
 intro bS cU mh cw jW
 refine WL.store (v := ag [vB false, vi 0, vi 0, vi 0, vu 0, vu 0, vi 0, vu 0, vi 0, Value.slice none 0 0, vi 0, Value.slice none 0 0]) (cells' := [vB false, vi 0, vi 0, vi 0, vu 0, vu 0, vi 0, vu 0, vi 0, Value.slice none 0 0, vi 0, Value.slice none 0 0]) ty32 z z jW z (le_ z) z z ?_
 intro cV cx jX
 refine nl (th (sq (sq (rg (wY (ya z) z (nl (th (WC.block ?_))))))))
 obtain ⟨jP, h, jY⟩ := flow1 h
 obtain ⟨jQ, h⟩ := loop_some h
 refine WC.joinB 0 (σ := (List api_Point × List api_Point × Own × Value × Value)) (fun x w' => jP = .go (x.1, x.2.1) ∧ Stp [11, 12, 13, 14, 15, 16, 17, 18, 19, 20, 21, 23, 25, 1001, 1002, 1005, 1006, 1009, 1010] cU cV x.2.2.1 w' ∧ OwnSl 1017 rep_api_Point 37 x.2.2.1 w' x.2.2.2.1 x.1 ∧ OwnSl 1018 rep_api_Point 37 x.2.2.1 w' x.2.2.2.2 x.2.1) (fun x => [(6, x.2.2.2.1), (7, x.2.2.2.2)]) ?_ ?_
 ·refine WC.loop (σ := (List api_Point × List api_Point × Bool × Int × Int × Int × UInt64 × UInt64 × Int × UInt64 × Int × List UInt64 × Int × List UInt64 × Int × Own × Value × Value × Value × Value)) (fun x k w' => loopN k (law16_play_lp1 a0 a1) (x.1, x.2.1, x.2.2.1, x.2.2.2.1, x.2.2.2.2.1, x.2.2.2.2.2.1, x.2.2.2.2.2.2.1, x.2.2.2.2.2.2.2.1, x.2.2.2.2.2.2.2.2.1, x.2.2.2.2.2.2.2.2.2.1, x.2.2.2.2.2.2.2.2.2.2.1, x.2.2.2.2.2.2.2.2.2.2.2.1, x.2.2.2.2.2.2.2.2.2.2.2.2.1, x.2.2.2.2.2.2.2.2.2.2.2.2.2.1, x.2.2.2.2.2.2.2.2.2.2.2.2.2.2.1) = some jP ∧ Stp [11, 12, 13, 14, 15, 16, 17, 18, 19, 20, 21, 23, 25, 1001, 1002, 1005, 1006, 1009, 1010] cU cV x.2.2.2.2.2.2.2.2.2.2.2.2.2.2.2.1 w' ∧ OwnSl 1009 rep_api_Point 37 x.2.2.2.2.2.2.2.2.2.2.2.2.2.2.2.1 w' x.2.2.2.2.2.2.2.2.2.2.2.2.2.2.2.2.1 x.1 ∧ OwnSl 1010 rep_api_Point 37 x.2.2.2.2.2.2.2.2.2.2.2.2.2.2.2.1 w' x.2.2.2.2.2.2.2.2.2.2.2.2.2.2.2.2.2.1 x.2.1 ∧ Sl Rep.u w' (frs x.2.2.2.2.2.2.2.2.2.2.2.2.2.2.2.1) x.2.2.2.2.2.2.2.2.2.2.2.2.2.2.2.2.2.2.1 x.2.2.2.2.2.2.2.2.2.2.2.1 ∧ Sl Rep.u w' (frs x.2.2.2.2.2.2.2.2.2.2.2.2.2.2.2.1) x.2.2.2.2.2.2.2.2.2.2.2.2.2.2.2.2.2.2.2 x.2.2.2.2.2.2.2.2.2.2.2.2.2.1 ∧ Blk 11 x.2.2.2.2.2.2.2.2.2.2.2.2.2.2.2.1 w' bS 32 [vB x.2.2.1, vi x.2.2.2.1, vi x.2.2.2.2.1, vi x.2.2.2.2.2.1, vu x.2.2.2.2.2.2.1, vu x.2.2.2.2.2.2.2.1, vi x.2.2.2.2.2.2.2.2.1, vu x.2.2.2.2.2.2.2.2.2.1, vi x.2.2.2.2.2.2.2.2.2.2.1, x.2.2.2.2.2.2.2.2.2.2.2.2.2.2.2.2.2.2.1, vi x.2.2.2.2.2.2.2.2.2.2.2.2.1, x.2.2.2.2.2.2.2.2.2.2.2.2.2.2.2.2.2.2.2]) (fun x => [(0, v0), (1, vi a1), (6, x.2.2.2.2.2.2.2.2.2.2.2.2.2.2.2.2.1), (7, x.2.2.2.2.2.2.2.2.2.2.2.2.2.2.2.2.2.1), (8, pt bS 0), (9, vi x.2.2.2.2.2.2.2.2.2.2.2.2.2.2.1)]) ([], [], false, 0, 0, 0, 0, 0, 0, 0, 0, [], 0, [], 0, cU, Value.slice none 0 0, Value.slice none 0 0, Value.slice none 0 0, Value.slice none 0 0) jQ (.cons z (.cons z (.cons z (.cons z (.cons z (.cons z .nil)))))) ⟨h, (sr_ _ _ _), (OwnSl.nil 1009 rep_api_Point 37), (OwnSl.nil 1010 rep_api_Point 37), (Or.inl ⟨z, z⟩), (Or.inl ⟨z, z⟩), jX⟩ ?_
  rintro ⟨cp, b9, aL, aM, aN, aO, aP, aQ, aR, aS, aT, bU, aU, bW, b7, b8, cj, ck, bX, bY⟩ jQ jZ ⟨h, bT, ca, cb, bh, bi, cc⟩
  obtain ⟨lv, mJ, rfl, h, cW⟩ := rnd1 h
  unfold law16_play_lp1 at h
  try dsimp only at h bT ca cb bh bi cc
  refine (show WC _ _ _ _ [(0, v0), (1, vi a1), (6, cj), (7, ck), (8, pt bS 0), (9, vi b7)] _ from ?_)
  refine sq (sq (rg (wY (ym z) z (wY (ym z) z ?_))))
  have j0 := jV.i cw z z
  have j1 := j0.i cx z z
  have cX := j1.i bT z z
  refine wY (Y.len ty22 z cX) z (wY (Y.lss_i z z) z (nl (th ?_)))
  rcases cnd h with ⟨cq, h⟩ | ⟨cq, h⟩
  ·refine WC.condT' z cq (sk (th (sq ?_)))
   obtain ⟨lw, h, j2⟩ := bnd h
   refine WC.join (σ := (List api_Point × List api_Point × Bool × Int × Int × Int × UInt64 × UInt64 × Int × UInt64 × Int × List UInt64 × Int × List UInt64 × Own × Value × Value × Value × Value)) (fun x w' => (x.1, x.2.1, x.2.2.1, x.2.2.2.1, x.2.2.2.2.1, x.2.2.2.2.2.1, x.2.2.2.2.2.2.1, x.2.2.2.2.2.2.2.1, x.2.2.2.2.2.2.2.2.1, x.2.2.2.2.2.2.2.2.2.1, x.2.2.2.2.2.2.2.2.2.2.1, x.2.2.2.2.2.2.2.2.2.2.2.1, x.2.2.2.2.2.2.2.2.2.2.2.2.1, x.2.2.2.2.2.2.2.2.2.2.2.2.2.1) = lw ∧ Stp [11, 12, 13, 14, 15, 16, 17, 18, 19, 20, 21, 1001, 1002, 1009, 1010] b8 jZ x.2.2.2.2.2.2.2.2.2.2.2.2.2.2.1 w' ∧ OwnSl 1005 rep_api_Point 37 x.2.2.2.2.2.2.2.2.2.2.2.2.2.2.1 w' x.2.2.2.2.2.2.2.2.2.2.2.2.2.2.2.1 x.1 ∧ OwnSl 1006 rep_api_Point 37 x.2.2.2.2.2.2.2.2.2.2.2.2.2.2.1 w' x.2.2.2.2.2.2.2.2.2.2.2.2.2.2.2.2.1 x.2.1 ∧ Sl Rep.u w' (frs x.2.2.2.2.2.2.2.2.2.2.2.2.2.2.1) x.2.2.2.2.2.2.2.2.2.2.2.2.2.2.2.2.2.1 x.2.2.2.2.2.2.2.2.2.2.2.1 ∧ Sl Rep.u w' (frs x.2.2.2.2.2.2.2.2.2.2.2.2.2.2.1) x.2.2.2.2.2.2.2.2.2.2.2.2.2.2.2.2.2.2 x.2.2.2.2.2.2.2.2.2.2.2.2.2.1 ∧ Blk 11 x.2.2.2.2.2.2.2.2.2.2.2.2.2.2.1 w' bS 32 [vB x.2.2.1, vi x.2.2.2.1, vi x.2.2.2.2.1, vi x.2.2.2.2.2.1, vu x.2.2.2.2.2.2.1, vu x.2.2.2.2.2.2.2.1, vi x.2.2.2.2.2.2.2.2.1, vu x.2.2.2.2.2.2.2.2.2.1, vi x.2.2.2.2.2.2.2.2.2.2.1, x.2.2.2.2.2.2.2.2.2.2.2.2.2.2.2.2.2.1, vi x.2.2.2.2.2.2.2.2.2.2.2.2.1, x.2.2.2.2.2.2.2.2.2.2.2.2.2.2.2.2.2.2]) (fun x => [(0, v0), (1, vi a1), (6, x.2.2.2.2.2.2.2.2.2.2.2.2.2.2.2.1), (7, x.2.2.2.2.2.2.2.2.2.2.2.2.2.2.2.2.1), (8, pt bS 0), (9, vi b7)]) ?_ ?_
   ·refine WC.block (sq (WC.drawH [12, 13, 14, 15, 16, 17, 18, 19, 20, 21, 1001, 1002] [0, 1, 2, 3, 4, 5, 6, 7, 8, 9, 10, 11, 12, 13, 14, 15] b8 16 fmix z (by kernel_rfl) ?_))
    intro j3 e
    refine WD.y 0 z (by kernel_rfl) (fun mi mK dE => have j4 := cc.st e z; have dF := j4.st dE z; yL ty32 z z (dF.cells 0 [vB aL, vi aM, vi aN, vi aO, vu aP, vu aQ, vi aR, vu aS, vi aT, bX, vi aU, bY] z) z) z (WD.y 1 z (by kernel_rfl) (fun _ _ _ => ym z) z (WD.y 2 z (by kernel_rfl) (fun _ _ _ => ym z) z ?_))
    obtain ⟨c, dG, h⟩ := bnd h
    have cy := cX.i e z z
    obtain ⟨mj, lx, ly, lQ, dH, dI, dJ, cd, cY, dK⟩ := Sl.at2 cy dG
    obtain ⟨_, _, rfl, rfl, ⟨_, _, rfl, ⟨bG, rfl, bu⟩, ⟨_, _, rfl, rfl, ⟨_, _, rfl, rfl, ⟨_, _, rfl, rfl, ⟨_, _, rfl, rfl, ⟨_, _, rfl, rfl, ⟨_, _, rfl, rfl, ⟨_, _, rfl, rfl, ⟨_, _, rfl, rfl, ⟨_, _, rfl, ⟨_, _, rfl, rfl, ⟨_, _, rfl, rfl, ⟨_, _, rfl, ⟨_, _, rfl, rfl, ⟨bH, rfl, bw⟩⟩, ⟨_, _, rfl, rfl, ⟨bI, rfl, bx⟩⟩⟩⟩⟩, rfl⟩⟩⟩⟩⟩⟩⟩⟩⟩⟩⟩ := cY
    replace cd : CellsAt _ _ _ [vs c.Name, bG, vi c.Kind, vi c.Temp, vB c.Mono, vi c.Start, vi c.Time, vi c.Int_, vu c.Re, vu c.Im, vi c.Hist.Scale, vu c.Hist.Zero, vi c.Hist.Pos.Offset, bH, vi c.Hist.Neg.Offset, bI, vi c.Flags] := cd
    have cZ := CAt.imm cd dK
    refine WD.y 3 z (by kernel_rfl) (fun _ _ _ => Y.indexAddr ty22 ty37 z dH z dI dJ) z (WD.y 4 z (by kernel_rfl) (fun lR ml c0 => have dL := cZ.st c0 z; yL ty37 z z dL.at_ z) z (WD.y 5 z (by kernel_rfl) (fun _ _ _ => ym z) z ?_))
    obtain ⟨j5, dM, h⟩ := rhs1 h
    refine WD.join (σ := (Bool × Int × Int × Int × UInt64 × UInt64 × Int × UInt64 × Int × List UInt64 × Int × List UInt64 × List UInt8 × List api_Pair × Int × Int × Bool × Int × Int × Int × UInt64 × UInt64 × Int × UInt64 × Int × List UInt64 × Int × List UInt64 × Int × Int × Own × Nat × Nat × Value × Value × Value × Value × Value)) (f' := 3) [12, 11, 10, 9, 8, 7, 6, 5, 4, 3, 2, 1, 0] (fun x O' w' => law16_play_k2 a0 cp b9 aL aM aN aO aP aQ aR aS aT bU aU bW b7 (x.1, x.2.1, x.2.2.1, x.2.2.2.1, x.2.2.2.2.1, x.2.2.2.2.2.1, x.2.2.2.2.2.2.1, x.2.2.2.2.2.2.2.1, x.2.2.2.2.2.2.2.2.1, x.2.2.2.2.2.2.2.2.2.1, x.2.2.2.2.2.2.2.2.2.2.1, x.2.2.2.2.2.2.2.2.2.2.2.1, x.2.2.2.2.2.2.2.2.2.2.2.2.1, x.2.2.2.2.2.2.2.2.2.2.2.2.2.1, x.2.2.2.2.2.2.2.2.2.2.2.2.2.2.1, x.2.2.2.2.2.2.2.2.2.2.2.2.2.2.2.1, x.2.2.2.2.2.2.2.2.2.2.2.2.2.2.2.2.1, x.2.2.2.2.2.2.2.2.2.2.2.2.2.2.2.2.2.1, x.2.2.2.2.2.2.2.2.2.2.2.2.2.2.2.2.2.2.1, x.2.2.2.2.2.2.2.2.2.2.2.2.2.2.2.2.2.2.2.1, x.2.2.2.2.2.2.2.2.2.2.2.2.2.2.2.2.2.2.2.2.1, x.2.2.2.2.2.2.2.2.2.2.2.2.2.2.2.2.2.2.2.2.2.1, x.2.2.2.2.2.2.2.2.2.2.2.2.2.2.2.2.2.2.2.2.2.2.1, x.2.2.2.2.2.2.2.2.2.2.2.2.2.2.2.2.2.2.2.2.2.2.2.1, x.2.2.2.2.2.2.2.2.2.2.2.2.2.2.2.2.2.2.2.2.2.2.2.2.1, x.2.2.2.2.2.2.2.2.2.2.2.2.2.2.2.2.2.2.2.2.2.2.2.2.2.1, x.2.2.2.2.2.2.2.2.2.2.2.2.2.2.2.2.2.2.2.2.2.2.2.2.2.2.1, x.2.2.2.2.2.2.2.2.2.2.2.2.2.2.2.2.2.2.2.2.2.2.2.2.2.2.2.1, x.2.2.2.2.2.2.2.2.2.2.2.2.2.2.2.2.2.2.2.2.2.2.2.2.2.2.2.2.1, x.2.2.2.2.2.2.2.2.2.2.2.2.2.2.2.2.2.2.2.2.2.2.2.2.2.2.2.2.2.1) = some j5 ∧ Stp [12, 13, 14, 15, 16, 17, 18, 19, 20, 21] b8 j3 x.2.2.2.2.2.2.2.2.2.2.2.2.2.2.2.2.2.2.2.2.2.2.2.2.2.2.2.2.2.2.1 w' ∧ Blk 1001 x.2.2.2.2.2.2.2.2.2.2.2.2.2.2.2.2.2.2.2.2.2.2.2.2.2.2.2.2.2.2.1 w' x.2.2.2.2.2.2.2.2.2.2.2.2.2.2.2.2.2.2.2.2.2.2.2.2.2.2.2.2.2.2.2.1 32 [vB false, vi 0, vi 0, vi 0, vu 0, vu 0, vi 0, vu 0, vi 0, Value.slice none 0 0, vi 0, Value.slice none 0 0] ∧ Blk 1002 x.2.2.2.2.2.2.2.2.2.2.2.2.2.2.2.2.2.2.2.2.2.2.2.2.2.2.2.2.2.2.1 w' x.2.2.2.2.2.2.2.2.2.2.2.2.2.2.2.2.2.2.2.2.2.2.2.2.2.2.2.2.2.2.2.2.1 37 [vs [], Value.slice none 0 0, vi 0, vi 0, vB false, vi 0, vi 0, vi 0, vu 0, vu 0, vi 0, vu 0, vi 0, Value.slice none 0 0, vi 0, Value.slice none 0 0, vi 0] ∧ Sl Rep.u w' (frs x.2.2.2.2.2.2.2.2.2.2.2.2.2.2.2.2.2.2.2.2.2.2.2.2.2.2.2.2.2.2.1) x.2.2.2.2.2.2.2.2.2.2.2.2.2.2.2.2.2.2.2.2.2.2.2.2.2.2.2.2.2.2.2.2.2.1 x.2.2.2.2.2.2.2.2.2.1 ∧ Sl Rep.u w' (frs x.2.2.2.2.2.2.2.2.2.2.2.2.2.2.2.2.2.2.2.2.2.2.2.2.2.2.2.2.2.2.1) x.2.2.2.2.2.2.2.2.2.2.2.2.2.2.2.2.2.2.2.2.2.2.2.2.2.2.2.2.2.2.2.2.2.2.1 x.2.2.2.2.2.2.2.2.2.2.2.1 ∧ Sl rep_api_Pair w' (frs x.2.2.2.2.2.2.2.2.2.2.2.2.2.2.2.2.2.2.2.2.2.2.2.2.2.2.2.2.2.2.1) x.2.2.2.2.2.2.2.2.2.2.2.2.2.2.2.2.2.2.2.2.2.2.2.2.2.2.2.2.2.2.2.2.2.2.2.1 x.2.2.2.2.2.2.2.2.2.2.2.2.2.1 ∧ Sl Rep.u w' (frs x.2.2.2.2.2.2.2.2.2.2.2.2.2.2.2.2.2.2.2.2.2.2.2.2.2.2.2.2.2.2.1) x.2.2.2.2.2.2.2.2.2.2.2.2.2.2.2.2.2.2.2.2.2.2.2.2.2.2.2.2.2.2.2.2.2.2.2.2.1 x.2.2.2.2.2.2.2.2.2.2.2.2.2.2.2.2.2.2.2.2.2.2.2.2.2.1 ∧ Sl Rep.u w' (frs x.2.2.2.2.2.2.2.2.2.2.2.2.2.2.2.2.2.2.2.2.2.2.2.2.2.2.2.2.2.2.1) x.2.2.2.2.2.2.2.2.2.2.2.2.2.2.2.2.2.2.2.2.2.2.2.2.2.2.2.2.2.2.2.2.2.2.2.2.2 x.2.2.2.2.2.2.2.2.2.2.2.2.2.2.2.2.2.2.2.2.2.2.2.2.2.2.2.1 ∧ x.2.2.2.2.2.2.2.2.2.2.2.2.2.2.2.2.2.2.2.2.2.2.2.2.2.2.2.2.2.2.1 = O') (fun x => [(0, v0), (1, vi a1), (6, cj), (7, ck), (8, pt bS 0), (9, vi b7), (10, Value.pointer (some ⟨x.2.2.2.2.2.2.2.2.2.2.2.2.2.2.2.2.2.2.2.2.2.2.2.2.2.2.2.2.2.2.2.1, 0, none⟩)), (11, Value.pointer (some ⟨x.2.2.2.2.2.2.2.2.2.2.2.2.2.2.2.2.2.2.2.2.2.2.2.2.2.2.2.2.2.2.2.2.1, 0, none⟩)), (28, ag [vB x.1, vi x.2.1, vi x.2.2.1, vi x.2.2.2.1, vu x.2.2.2.2.1, vu x.2.2.2.2.2.1, vi x.2.2.2.2.2.2.1, vu x.2.2.2.2.2.2.2.1, vi x.2.2.2.2.2.2.2.2.1, x.2.2.2.2.2.2.2.2.2.2.2.2.2.2.2.2.2.2.2.2.2.2.2.2.2.2.2.2.2.2.2.2.2.1, vi x.2.2.2.2.2.2.2.2.2.2.1, x.2.2.2.2.2.2.2.2.2.2.2.2.2.2.2.2.2.2.2.2.2.2.2.2.2.2.2.2.2.2.2.2.2.2.1]), (29, ag [vs x.2.2.2.2.2.2.2.2.2.2.2.2.1, x.2.2.2.2.2.2.2.2.2.2.2.2.2.2.2.2.2.2.2.2.2.2.2.2.2.2.2.2.2.2.2.2.2.2.2.1, vi x.2.2.2.2.2.2.2.2.2.2.2.2.2.2.1, vi x.2.2.2.2.2.2.2.2.2.2.2.2.2.2.2.1, vB x.2.2.2.2.2.2.2.2.2.2.2.2.2.2.2.2.1, vi x.2.2.2.2.2.2.2.2.2.2.2.2.2.2.2.2.2.1, vi x.2.2.2.2.2.2.2.2.2.2.2.2.2.2.2.2.2.2.1, vi x.2.2.2.2.2.2.2.2.2.2.2.2.2.2.2.2.2.2.2.1, vu x.2.2.2.2.2.2.2.2.2.2.2.2.2.2.2.2.2.2.2.2.1, vu x.2.2.2.2.2.2.2.2.2.2.2.2.2.2.2.2.2.2.2.2.2.1, vi x.2.2.2.2.2.2.2.2.2.2.2.2.2.2.2.2.2.2.2.2.2.2.1, vu x.2.2.2.2.2.2.2.2.2.2.2.2.2.2.2.2.2.2.2.2.2.2.2.1, vi x.2.2.2.2.2.2.2.2.2.2.2.2.2.2.2.2.2.2.2.2.2.2.2.2.1, x.2.2.2.2.2.2.2.2.2.2.2.2.2.2.2.2.2.2.2.2.2.2.2.2.2.2.2.2.2.2.2.2.2.2.2.2.1, vi x.2.2.2.2.2.2.2.2.2.2.2.2.2.2.2.2.2.2.2.2.2.2.2.2.2.2.1, x.2.2.2.2.2.2.2.2.2.2.2.2.2.2.2.2.2.2.2.2.2.2.2.2.2.2.2.2.2.2.2.2.2.2.2.2.2, vi x.2.2.2.2.2.2.2.2.2.2.2.2.2.2.2.2.2.2.2.2.2.2.2.2.2.2.2.2.1]), (30, vi x.2.2.2.2.2.2.2.2.2.2.2.2.2.2.2.2.2.2.2.2.2.2.2.2.2.2.2.2.2.1)]) (fun bg => ?_) ?_
    ·refine WD.heavy3 6 11 12 z z z (by kernel_rfl) ?_ ?_ ?_
     ·have dN := bh.f e z
      have dO := bi.f e z
      obtain ⟨⟨m, d, c1⟩, dP, h⟩ := bnd h
      refine WL.call (vals := [ag [vB aL, vi aM, vi aN, vi aO, vu aP, vu aQ, vi aR, vu aS, vi aT, bX, vi aU, bY], ag [vs c.Name, bG, vi c.Kind, vi c.Temp, vB c.Mono, vi c.Start, vi c.Time, vi c.Int_, vu c.Re, vu c.Im, vi c.Hist.Scale, vu c.Hist.Zero, vi c.Hist.Pos.Offset, bH, vi c.Hist.Neg.Offset, bI, vi c.Flags], vi a1]) kok20 z z (c_tocum_Next (A := fun _ => True) (a0 := (api_State.mk aL aM aN aO aP aQ (api_Hist.mk aR aS (api_Side.mk aT bU) (api_Side.mk aU bW)))) (a1 := c) (Sl.all dN) (Sl.all dO) (Sl.all bu) (Sl.all bw) (Sl.all bx) dP) ?_
      rintro lS bz ⟨cr, cs, ct, cu, cv, rfl, dQ, j6, j7, j8, j9, ka⟩
      obtain ⟨bj, lm, aW, bZ⟩ := adoptE b8 (fun k => 1) dQ
      have cz : Sl Rep.u bz (frs bj) cr m.Hist.Pos.Counts := Sl.adoptF j6 (fun k hk => ⟨hk, z⟩) aW
      have cA : Sl Rep.u bz (frs bj) cs m.Hist.Neg.Counts := Sl.adoptF j7 (fun k hk => ⟨hk, z⟩) aW
      have cC : Sl rep_api_Pair bz (frs bj) ct d.Attrs := Sl.adoptF j8 (fun k hk => ⟨hk, z⟩) aW
      have cD : Sl Rep.u bz (frs bj) cu d.Hist.Pos.Counts := Sl.adoptF j9 (fun k hk => ⟨hk, z⟩) aW
      have cE : Sl Rep.u bz (frs bj) cv d.Hist.Neg.Counts := Sl.adoptF ka (fun k hk => ⟨hk, z⟩) aW
      refine nl (At.dq (su_ bZ z) (WD.y 7 z (by kernel_rfl) (fun _ _ _ => ym z) z (WD.y 8 z (by kernel_rfl) (fun _ _ _ => yx z z) z (WD.y 9 z (by kernel_rfl) (fun _ _ _ => yx z z) z (WD.y 10 z (by kernel_rfl) (fun _ _ _ => yx z z) z ?_)))))
      refine WD.heavy2 11 12 z z (by kernel_rfl) ?_ ?_
      ·refine WL.alloc (O := bj) 12 [vB false, vi 0, vi 0, vi 0, vu 0, vu 0, vi 0, vu 0, vi 0, Value.slice none 0 0, vi 0, Value.slice none 0 0] ty32 z z ?_
       intro kb kc lT aH dR
       refine nl (At.dq (su_ aH z) (WD.heavy 12 z (by kernel_rfl) (WL.alloc (O := kc) 13 [vs [], Value.slice none 0 0, vi 0, vi 0, vB false, vi 0, vi 0, vi 0, vu 0, vu 0, vi 0, vu 0, vi 0, Value.slice none 0 0, vi 0, Value.slice none 0 0, vi 0] ty37 z z ?_)))
       intro kd mm lU al dS
       refine nl (At.dq (su_ al z) ?_)
       have dT := dR.st al z
       obtain ⟨mn, am, dU⟩ := Blk.rlb 1001 rfl dT
       have dV := dS.st am z
       obtain ⟨ke, an, dW⟩ := Blk.rlb 1002 rfl dV
       have dX := dU.st an z
       have dY := cz.f aH z
       have dZ := dY.f al z
       have d0 := dZ.f am z
       have d1 := d0.f an z
       have d2 := cA.f aH z
       have d3 := d2.f al z
       have d4 := d3.f am z
       have d5 := d4.f an z
       have d6 := cC.f aH z
       have d7 := d6.f al z
       have d8 := d7.f am z
       have d9 := d8.f an z
       have ea := cD.f aH z
       have eb := ea.f al z
       have ec := eb.f am z
       have ed := ec.f an z
       have ee := cE.f aH z
       have ef := ee.f al z
       have eg := ef.f am z
       have eh := eg.f an z
       refine WD.own (tr_ (su_ am z) (su_ an z)) (WD.perm _ [12, 11, 10, 9, 8, 7, 6, 5, 4, 3, 2, 1, 0] (by kernel_rfl) ?_)
       exact bg (m.Some, m.Start, m.Time, m.Int_, m.Re, m.Im, m.Hist.Scale, m.Hist.Zero, m.Hist.Pos.Offset, m.Hist.Pos.Counts, m.Hist.Neg.Offset, m.Hist.Neg.Counts, d.Name, d.Attrs, d.Kind, d.Temp, d.Mono, d.Start, d.Time, d.Int_, d.Re, d.Im, d.Hist.Scale, d.Hist.Zero, d.Hist.Pos.Offset, d.Hist.Pos.Counts, d.Hist.Neg.Offset, d.Hist.Neg.Counts, d.Flags, c1, ke, kb, kd, cr, cs, ct, cu, cv) _ _ _ ⟨h, (tr_ (su_ bZ z) (tr_ (su_ aH z) (tr_ (su_ al z) (tr_ (su_ am z) (su_ an z))))), dX, dW, d1, d5, d9, ed, eh, z⟩ (.cons z (.cons z (.cons z (.cons z (.cons z (.cons z (.cons z (.cons z (.cons z (.cons z (.cons z .nil)))))))))))
      ·refine WL.alloc (O := bj) 14 [vs [], Value.slice none 0 0, vi 0, vi 0, vB false, vi 0, vi 0, vi 0, vu 0, vu 0, vi 0, vu 0, vi 0, Value.slice none 0 0, vi 0, Value.slice none 0 0, vi 0] ty37 z z ?_
       intro kf kg lV aI ei
       refine nl (At.dq (su_ aI z) (WD.heavy 11 z (by kernel_rfl) (WL.alloc (O := kg) 15 [vB false, vi 0, vi 0, vi 0, vu 0, vu 0, vi 0, vu 0, vi 0, Value.slice none 0 0, vi 0, Value.slice none 0 0] ty32 z z ?_)))
       intro kh mo lW ao ej
       refine nl (At.dq (su_ ao z) ?_)
       obtain ⟨mp, ap, ek⟩ := Blk.rlb 1001 rfl ej
       have em := ei.st ao z
       have en := em.st ap z
       obtain ⟨ki, aq, eo⟩ := Blk.rlb 1002 rfl en
       have ep := ek.st aq z
       have er := cz.f aI z
       have es := er.f ao z
       have et := es.f ap z
       have eu := et.f aq z
       have ew := cA.f aI z
       have ex := ew.f ao z
       have ey := ex.f ap z
       have ez := ey.f aq z
       have eA := cC.f aI z
       have eB := eA.f ao z
       have eC := eB.f ap z
       have eD := eC.f aq z
       have eE := cD.f aI z
       have eF := eE.f ao z
       have eG := eF.f ap z
       have eH := eG.f aq z
       have eI := cE.f aI z
       have eJ := eI.f ao z
       have eK := eJ.f ap z
       have eL := eK.f aq z
       refine WD.own (tr_ (su_ ap z) (su_ aq z)) (WD.perm _ [12, 11, 10, 9, 8, 7, 6, 5, 4, 3, 2, 1, 0] (by kernel_rfl) ?_)
       exact bg (m.Some, m.Start, m.Time, m.Int_, m.Re, m.Im, m.Hist.Scale, m.Hist.Zero, m.Hist.Pos.Offset, m.Hist.Pos.Counts, m.Hist.Neg.Offset, m.Hist.Neg.Counts, d.Name, d.Attrs, d.Kind, d.Temp, d.Mono, d.Start, d.Time, d.Int_, d.Re, d.Im, d.Hist.Scale, d.Hist.Zero, d.Hist.Pos.Offset, d.Hist.Pos.Counts, d.Hist.Neg.Offset, d.Hist.Neg.Counts, d.Flags, c1, ki, kh, kf, cr, cs, ct, cu, cv) _ _ _ ⟨h, (tr_ (su_ bZ z) (tr_ (su_ aI z) (tr_ (su_ ao z) (tr_ (su_ ap z) (su_ aq z))))), ep, eo, eu, ez, eD, eH, eL, z⟩ (.cons z (.cons z (.cons z (.cons z (.cons z (.cons z (.cons z (.cons z (.cons z (.cons z (.cons z .nil)))))))))))
     ·refine WL.alloc (O := b8) 16 [vB false, vi 0, vi 0, vi 0, vu 0, vu 0, vi 0, vu 0, vi 0, Value.slice none 0 0, vi 0, Value.slice none 0 0] ty32 z z ?_
      intro c2 c3 lX F cF
      refine nl (At.dq (su_ F z) ?_)
      refine WD.heavy2 6 12 z z (by kernel_rfl) ?_ ?_
      ·have eM := bh.f e z
       have eN := eM.f F z
       have eO := bi.f e z
       have eP := eO.f F z
       have eQ := bu.i F z z
       have eR := bw.i F z z
       have eS := bx.i F z z
       obtain ⟨⟨ae, G, kj⟩, eT, h⟩ := bnd h
       refine WL.call (vals := [ag [vB aL, vi aM, vi aN, vi aO, vu aP, vu aQ, vi aR, vu aS, vi aT, bX, vi aU, bY], ag [vs c.Name, bG, vi c.Kind, vi c.Temp, vB c.Mono, vi c.Start, vi c.Time, vi c.Int_, vu c.Re, vu c.Im, vi c.Hist.Scale, vu c.Hist.Zero, vi c.Hist.Pos.Offset, bH, vi c.Hist.Neg.Offset, bI, vi c.Flags], vi a1]) kok20 z z (c_tocum_Next (A := fun _ => True) (a0 := (api_State.mk aL aM aN aO aP aQ (api_Hist.mk aR aS (api_Side.mk aT bU) (api_Side.mk aU bW)))) (a1 := c) (Sl.all eN) (Sl.all eP) (Sl.all eQ) (Sl.all eR) (Sl.all eS) eT) ?_
       rintro lY bA ⟨c4, c5, c6, c7, c8, rfl, eU, kk, km, kn, ko, kp⟩
       obtain ⟨bJ, ln, aX, b0⟩ := adoptE c3 (fun k => 1) eU
       have eV : Sl Rep.u bA (frs bJ) c4 ae.Hist.Pos.Counts := Sl.adoptF kk (fun k hk => ⟨hk, z⟩) aX
       have eW : Sl Rep.u bA (frs bJ) c5 ae.Hist.Neg.Counts := Sl.adoptF km (fun k hk => ⟨hk, z⟩) aX
       have eX : Sl rep_api_Pair bA (frs bJ) c6 G.Attrs := Sl.adoptF kn (fun k hk => ⟨hk, z⟩) aX
       have eY : Sl Rep.u bA (frs bJ) c7 G.Hist.Pos.Counts := Sl.adoptF ko (fun k hk => ⟨hk, z⟩) aX
       have eZ : Sl Rep.u bA (frs bJ) c8 G.Hist.Neg.Counts := Sl.adoptF kp (fun k hk => ⟨hk, z⟩) aX
       refine nl (At.dq (su_ b0 z) (WD.y 7 z (by kernel_rfl) (fun _ _ _ => ym z) z (WD.y 8 z (by kernel_rfl) (fun _ _ _ => yx z z) z (WD.y 9 z (by kernel_rfl) (fun _ _ _ => yx z z) z (WD.y 10 z (by kernel_rfl) (fun _ _ _ => yx z z) z (WD.heavy 12 z (by kernel_rfl) (WL.alloc (O := bJ) 17 [vs [], Value.slice none 0 0, vi 0, vi 0, vB false, vi 0, vi 0, vi 0, vu 0, vu 0, vi 0, vu 0, vi 0, Value.slice none 0 0, vi 0, Value.slice none 0 0, vi 0] ty37 z z ?_)))))))
       intro kq mq lZ ar e0
       refine nl (At.dq (su_ ar z) ?_)
       have e1 := cF.st b0 z
       have e2 := e1.st ar z
       obtain ⟨mr, au, e5⟩ := Blk.rlb 1001 rfl e2
       have e6 := e0.st au z
       obtain ⟨kr, av, e7⟩ := Blk.rlb 1002 rfl e6
       have e8 := e5.st av z
       have e9 := eV.f ar z
       have fa := e9.f au z
       have fb := fa.f av z
       have fc := eW.f ar z
       have fd := fc.f au z
       have fe := fd.f av z
       have ff := eX.f ar z
       have fg := ff.f au z
       have fh := fg.f av z
       have fi := eY.f ar z
       have fj := fi.f au z
       have fk := fj.f av z
       have fl := eZ.f ar z
       have fm := fl.f au z
       have fn := fm.f av z
       refine WD.own (tr_ (su_ au z) (su_ av z)) (WD.perm _ [12, 11, 10, 9, 8, 7, 6, 5, 4, 3, 2, 1, 0] (by kernel_rfl) ?_)
       exact bg (ae.Some, ae.Start, ae.Time, ae.Int_, ae.Re, ae.Im, ae.Hist.Scale, ae.Hist.Zero, ae.Hist.Pos.Offset, ae.Hist.Pos.Counts, ae.Hist.Neg.Offset, ae.Hist.Neg.Counts, G.Name, G.Attrs, G.Kind, G.Temp, G.Mono, G.Start, G.Time, G.Int_, G.Re, G.Im, G.Hist.Scale, G.Hist.Zero, G.Hist.Pos.Offset, G.Hist.Pos.Counts, G.Hist.Neg.Offset, G.Hist.Neg.Counts, G.Flags, kj, kr, c2, kq, c4, c5, c6, c7, c8) _ _ _ ⟨h, (tr_ (su_ F z) (tr_ (su_ b0 z) (tr_ (su_ ar z) (tr_ (su_ au z) (su_ av z))))), e8, e7, fb, fe, fh, fk, fn, z⟩ (.cons z (.cons z (.cons z (.cons z (.cons z (.cons z (.cons z (.cons z (.cons z (.cons z (.cons z .nil)))))))))))
      ·refine WL.alloc (O := c3) 18 [vs [], Value.slice none 0 0, vi 0, vi 0, vB false, vi 0, vi 0, vi 0, vu 0, vu 0, vi 0, vu 0, vi 0, Value.slice none 0 0, vi 0, Value.slice none 0 0, vi 0] ty37 z z ?_
       intro ks kt l0 aw fo
       refine nl (At.dq (su_ aw z) (WD.heavy 6 z (by kernel_rfl) ?_))
       have fp := bh.f e z
       have fq := fp.f F z
       have fr := fq.f aw z
       have fs := bi.f e z
       have ft := fs.f F z
       have fu := ft.f aw z
       have fv := bu.i F z z
       have fw := fv.i aw z z
       have fx := bw.i F z z
       have fy := fx.i aw z z
       have fz := bx.i F z z
       have fA := fz.i aw z z
       obtain ⟨⟨af, H, ku⟩, fB, h⟩ := bnd h
       refine WL.call (vals := [ag [vB aL, vi aM, vi aN, vi aO, vu aP, vu aQ, vi aR, vu aS, vi aT, bX, vi aU, bY], ag [vs c.Name, bG, vi c.Kind, vi c.Temp, vB c.Mono, vi c.Start, vi c.Time, vi c.Int_, vu c.Re, vu c.Im, vi c.Hist.Scale, vu c.Hist.Zero, vi c.Hist.Pos.Offset, bH, vi c.Hist.Neg.Offset, bI, vi c.Flags], vi a1]) kok20 z z (c_tocum_Next (A := fun _ => True) (a0 := (api_State.mk aL aM aN aO aP aQ (api_Hist.mk aR aS (api_Side.mk aT bU) (api_Side.mk aU bW)))) (a1 := c) (Sl.all fr) (Sl.all fu) (Sl.all fw) (Sl.all fy) (Sl.all fA) fB) ?_
       rintro l1 bB ⟨c9, da, db, dc, dd, rfl, fC, kv, kw, kx, ky, kz⟩
       obtain ⟨b1, lp, aY, bC⟩ := adoptE kt (fun k => 1) fC
       have fD : Sl Rep.u bB (frs b1) c9 af.Hist.Pos.Counts := Sl.adoptF kv (fun k hk => ⟨hk, z⟩) aY
       have fF : Sl Rep.u bB (frs b1) da af.Hist.Neg.Counts := Sl.adoptF kw (fun k hk => ⟨hk, z⟩) aY
       have fG : Sl rep_api_Pair bB (frs b1) db H.Attrs := Sl.adoptF kx (fun k hk => ⟨hk, z⟩) aY
       have fH : Sl Rep.u bB (frs b1) dc H.Hist.Pos.Counts := Sl.adoptF ky (fun k hk => ⟨hk, z⟩) aY
       have fI : Sl Rep.u bB (frs b1) dd H.Hist.Neg.Counts := Sl.adoptF kz (fun k hk => ⟨hk, z⟩) aY
       refine nl (At.dq (su_ bC z) (WD.y 7 z (by kernel_rfl) (fun _ _ _ => ym z) z (WD.y 8 z (by kernel_rfl) (fun _ _ _ => yx z z) z (WD.y 9 z (by kernel_rfl) (fun _ _ _ => yx z z) z (WD.y 10 z (by kernel_rfl) (fun _ _ _ => yx z z) z ?_)))))
       have fJ := cF.st aw z
       have fK := fJ.st bC z
       obtain ⟨ms, ax, fL⟩ := Blk.rlb 1001 rfl fK
       have fN := fo.st bC z
       have fO := fN.st ax z
       obtain ⟨kA, ay, fP⟩ := Blk.rlb 1002 rfl fO
       have fQ := fL.st ay z
       have fR := fD.f ax z
       have fT := fR.f ay z
       have fU := fF.f ax z
       have fV := fU.f ay z
       have fY := fG.f ax z
       have f0 := fY.f ay z
       have f1 := fH.f ax z
       have f2 := f1.f ay z
       have f3 := fI.f ax z
       have f4 := f3.f ay z
       refine WD.own (tr_ (su_ ax z) (su_ ay z)) (WD.perm _ [12, 11, 10, 9, 8, 7, 6, 5, 4, 3, 2, 1, 0] (by kernel_rfl) ?_)
       exact bg (af.Some, af.Start, af.Time, af.Int_, af.Re, af.Im, af.Hist.Scale, af.Hist.Zero, af.Hist.Pos.Offset, af.Hist.Pos.Counts, af.Hist.Neg.Offset, af.Hist.Neg.Counts, H.Name, H.Attrs, H.Kind, H.Temp, H.Mono, H.Start, H.Time, H.Int_, H.Re, H.Im, H.Hist.Scale, H.Hist.Zero, H.Hist.Pos.Offset, H.Hist.Pos.Counts, H.Hist.Neg.Offset, H.Hist.Neg.Counts, H.Flags, ku, kA, c2, ks, c9, da, db, dc, dd) _ _ _ ⟨h, (tr_ (su_ F z) (tr_ (su_ aw z) (tr_ (su_ bC z) (tr_ (su_ ax z) (su_ ay z))))), fQ, fP, fT, fV, f0, f2, f4, z⟩ (.cons z (.cons z (.cons z (.cons z (.cons z (.cons z (.cons z (.cons z (.cons z (.cons z (.cons z .nil)))))))))))
     ·refine WL.alloc (O := b8) 19 [vs [], Value.slice none 0 0, vi 0, vi 0, vB false, vi 0, vi 0, vi 0, vu 0, vu 0, vi 0, vu 0, vi 0, Value.slice none 0 0, vi 0, Value.slice none 0 0, vi 0] ty37 z z ?_
      intro de df l2 I cG
      refine nl (At.dq (su_ I z) ?_)
      refine WD.heavy2 6 11 z z (by kernel_rfl) ?_ ?_
      ·have f5 := bh.f e z
       have f6 := f5.f I z
       have f7 := bi.f e z
       have f8 := f7.f I z
       have f9 := bu.i I z z
       have ga := bw.i I z z
       have gb := bx.i I z z
       obtain ⟨⟨ah, J, kB⟩, gc, h⟩ := bnd h
       refine WL.call (vals := [ag [vB aL, vi aM, vi aN, vi aO, vu aP, vu aQ, vi aR, vu aS, vi aT, bX, vi aU, bY], ag [vs c.Name, bG, vi c.Kind, vi c.Temp, vB c.Mono, vi c.Start, vi c.Time, vi c.Int_, vu c.Re, vu c.Im, vi c.Hist.Scale, vu c.Hist.Zero, vi c.Hist.Pos.Offset, bH, vi c.Hist.Neg.Offset, bI, vi c.Flags], vi a1]) kok20 z z (c_tocum_Next (A := fun _ => True) (a0 := (api_State.mk aL aM aN aO aP aQ (api_Hist.mk aR aS (api_Side.mk aT bU) (api_Side.mk aU bW)))) (a1 := c) (Sl.all f6) (Sl.all f8) (Sl.all f9) (Sl.all ga) (Sl.all gb) gc) ?_
       rintro l3 bD ⟨dg, dh, di, dj, dk, rfl, gd, kC, kD, kE, kF, kG⟩
       obtain ⟨bK, lq, aZ, b2⟩ := adoptE df (fun k => 1) gd
       have ge : Sl Rep.u bD (frs bK) dg ah.Hist.Pos.Counts := Sl.adoptF kC (fun k hk => ⟨hk, z⟩) aZ
       have gf : Sl Rep.u bD (frs bK) dh ah.Hist.Neg.Counts := Sl.adoptF kD (fun k hk => ⟨hk, z⟩) aZ
       have gg : Sl rep_api_Pair bD (frs bK) di J.Attrs := Sl.adoptF kE (fun k hk => ⟨hk, z⟩) aZ
       have gh : Sl Rep.u bD (frs bK) dj J.Hist.Pos.Counts := Sl.adoptF kF (fun k hk => ⟨hk, z⟩) aZ
       have gi : Sl Rep.u bD (frs bK) dk J.Hist.Neg.Counts := Sl.adoptF kG (fun k hk => ⟨hk, z⟩) aZ
       refine nl (At.dq (su_ b2 z) (WD.y 7 z (by kernel_rfl) (fun _ _ _ => ym z) z (WD.y 8 z (by kernel_rfl) (fun _ _ _ => yx z z) z (WD.y 9 z (by kernel_rfl) (fun _ _ _ => yx z z) z (WD.y 10 z (by kernel_rfl) (fun _ _ _ => yx z z) z (WD.heavy 11 z (by kernel_rfl) (WL.alloc (O := bK) 20 [vB false, vi 0, vi 0, vi 0, vu 0, vu 0, vi 0, vu 0, vi 0, Value.slice none 0 0, vi 0, Value.slice none 0 0] ty32 z z ?_)))))))
       intro kH mt l4 az gj
       refine nl (At.dq (su_ az z) ?_)
       obtain ⟨mu, aA, gk⟩ := Blk.rlb 1001 rfl gj
       have gl := cG.st b2 z
       have gm := gl.st az z
       have gn := gm.st aA z
       obtain ⟨kI, aC, gp⟩ := Blk.rlb 1002 rfl gn
       have gq := gk.st aC z
       have gr := ge.f az z
       have gs := gr.f aA z
       have gt := gs.f aC z
       have gu := gf.f az z
       have gw := gu.f aA z
       have gz := gw.f aC z
       have gB := gg.f az z
       have gC := gB.f aA z
       have gE := gC.f aC z
       have gG := gh.f az z
       have gH := gG.f aA z
       have gI := gH.f aC z
       have gJ := gi.f az z
       have gK := gJ.f aA z
       have gL := gK.f aC z
       refine WD.own (tr_ (su_ aA z) (su_ aC z)) (WD.perm _ [12, 11, 10, 9, 8, 7, 6, 5, 4, 3, 2, 1, 0] (by kernel_rfl) ?_)
       exact bg (ah.Some, ah.Start, ah.Time, ah.Int_, ah.Re, ah.Im, ah.Hist.Scale, ah.Hist.Zero, ah.Hist.Pos.Offset, ah.Hist.Pos.Counts, ah.Hist.Neg.Offset, ah.Hist.Neg.Counts, J.Name, J.Attrs, J.Kind, J.Temp, J.Mono, J.Start, J.Time, J.Int_, J.Re, J.Im, J.Hist.Scale, J.Hist.Zero, J.Hist.Pos.Offset, J.Hist.Pos.Counts, J.Hist.Neg.Offset, J.Hist.Neg.Counts, J.Flags, kB, kI, kH, de, dg, dh, di, dj, dk) _ _ _ ⟨h, (tr_ (su_ I z) (tr_ (su_ b2 z) (tr_ (su_ az z) (tr_ (su_ aA z) (su_ aC z))))), gq, gp, gt, gz, gE, gI, gL, z⟩ (.cons z (.cons z (.cons z (.cons z (.cons z (.cons z (.cons z (.cons z (.cons z (.cons z (.cons z .nil)))))))))))
      ·refine WL.alloc (O := df) 21 [vB false, vi 0, vi 0, vi 0, vu 0, vu 0, vi 0, vu 0, vi 0, Value.slice none 0 0, vi 0, Value.slice none 0 0] ty32 z z ?_
       intro kJ kK l5 aD gM
       refine nl (At.dq (su_ aD z) (WD.heavy 6 z (by kernel_rfl) ?_))
       have gO := bh.f e z
       have gP := gO.f I z
       have gQ := gP.f aD z
       have gR := bi.f e z
       have gU := gR.f I z
       have gV := gU.f aD z
       have gW := bu.i I z z
       have gX := gW.i aD z z
       have gY := bw.i I z z
       have gZ := gY.i aD z z
       have g0 := bx.i I z z
       have g1 := g0.i aD z z
       obtain ⟨⟨ai, K, kL⟩, g2, h⟩ := bnd h
       refine WL.call (vals := [ag [vB aL, vi aM, vi aN, vi aO, vu aP, vu aQ, vi aR, vu aS, vi aT, bX, vi aU, bY], ag [vs c.Name, bG, vi c.Kind, vi c.Temp, vB c.Mono, vi c.Start, vi c.Time, vi c.Int_, vu c.Re, vu c.Im, vi c.Hist.Scale, vu c.Hist.Zero, vi c.Hist.Pos.Offset, bH, vi c.Hist.Neg.Offset, bI, vi c.Flags], vi a1]) kok20 z z (c_tocum_Next (A := fun _ => True) (a0 := (api_State.mk aL aM aN aO aP aQ (api_Hist.mk aR aS (api_Side.mk aT bU) (api_Side.mk aU bW)))) (a1 := c) (Sl.all gQ) (Sl.all gV) (Sl.all gX) (Sl.all gZ) (Sl.all g1) g2) ?_
       rintro l6 bE ⟨dl, dm, dn, dp, dr, rfl, g3, kM, kN, kO, kP, kQ⟩
       obtain ⟨b3, lr, a2, bF⟩ := adoptE kK (fun k => 1) g3
       have g4 : Sl Rep.u bE (frs b3) dl ai.Hist.Pos.Counts := Sl.adoptF kM (fun k hk => ⟨hk, z⟩) a2
       have g5 : Sl Rep.u bE (frs b3) dm ai.Hist.Neg.Counts := Sl.adoptF kN (fun k hk => ⟨hk, z⟩) a2
       have g6 : Sl rep_api_Pair bE (frs b3) dn K.Attrs := Sl.adoptF kO (fun k hk => ⟨hk, z⟩) a2
       have g7 : Sl Rep.u bE (frs b3) dp K.Hist.Pos.Counts := Sl.adoptF kP (fun k hk => ⟨hk, z⟩) a2
       have g8 : Sl Rep.u bE (frs b3) dr K.Hist.Neg.Counts := Sl.adoptF kQ (fun k hk => ⟨hk, z⟩) a2
       refine nl (At.dq (su_ bF z) (WD.y 7 z (by kernel_rfl) (fun _ _ _ => ym z) z (WD.y 8 z (by kernel_rfl) (fun _ _ _ => yx z z) z (WD.y 9 z (by kernel_rfl) (fun _ _ _ => yx z z) z (WD.y 10 z (by kernel_rfl) (fun _ _ _ => yx z z) z ?_)))))
       have g9 := gM.st bF z
       obtain ⟨mv, aE, ha⟩ := Blk.rlb 1001 rfl g9
       have hc := cG.st aD z
       have hd := hc.st bF z
       have he := hd.st aE z
       obtain ⟨kR, aF, hf⟩ := Blk.rlb 1002 rfl he
       have hg := ha.st aF z
       have hh := g4.f aE z
       have hj := hh.f aF z
       have hl := g5.f aE z
       have hm := hl.f aF z
       have hn := g6.f aE z
       have ho := hn.f aF z
       have hp := g7.f aE z
       have hq := hp.f aF z
       have hr := g8.f aE z
       have ht := hr.f aF z
       refine WD.own (tr_ (su_ aE z) (su_ aF z)) (WD.perm _ [12, 11, 10, 9, 8, 7, 6, 5, 4, 3, 2, 1, 0] (by kernel_rfl) ?_)
       exact bg (ai.Some, ai.Start, ai.Time, ai.Int_, ai.Re, ai.Im, ai.Hist.Scale, ai.Hist.Zero, ai.Hist.Pos.Offset, ai.Hist.Pos.Counts, ai.Hist.Neg.Offset, ai.Hist.Neg.Counts, K.Name, K.Attrs, K.Kind, K.Temp, K.Mono, K.Start, K.Time, K.Int_, K.Re, K.Im, K.Hist.Scale, K.Hist.Zero, K.Hist.Pos.Offset, K.Hist.Pos.Counts, K.Hist.Neg.Offset, K.Hist.Neg.Counts, K.Flags, kL, kR, kJ, de, dl, dm, dn, dp, dr) _ _ _ ⟨h, (tr_ (su_ I z) (tr_ (su_ aD z) (tr_ (su_ bF z) (tr_ (su_ aE z) (su_ aF z))))), hg, hf, hj, hm, ho, hq, ht, z⟩ (.cons z (.cons z (.cons z (.cons z (.cons z (.cons z (.cons z (.cons z (.cons z (.cons z (.cons z .nil)))))))))))
    ·rintro ⟨bk, bl, bm, bn, bo, bp, bq, br, bs, kS, bt, kT, a4, kU, aJ, aG, ak, aj, ad, ab, Z, Q, L, p, n, kV, o, kW, M, kX, kY, kZ, k0, k1, k2, k3, k4, k5⟩ _ l7 ⟨h, P, cH, cI, ce, cf, cJ, cK, cL, rfl⟩
     replace h := h.trans (congrArg some dM.symm)
     unfold law16_play_k2 at h
     try dsimp only at h P cH cI ce cf cJ cK cL
     refine (show WD _ _ _ _ _ _ _ _ [(0, v0), (1, vi a1), (6, cj), (7, ck), (8, pt bS 0), (9, vi b7), (10, pt kZ 0), (11, pt k0 0), (28, ag [vB bk, vi bl, vi bm, vi bn, vu bo, vu bp, vi bq, vu br, vi bs, k1, vi bt, k2]), (29, ag [vs a4, k3, vi aJ, vi aG, vB ak, vi aj, vi ad, vi ab, vu Z, vu Q, vi L, vu p, vi n, k4, vi o, k5, vi M]), (30, vi kX)] _ _ from ?_)
     refine WD.heavy 13 z (by kernel_rfl) ?_
     have hu := h
     obtain ⟨bL, bM, bO, rfl⟩ := ce.shape
     have h := hu
     have hv := h
     obtain ⟨bP, bQ, bR, rfl⟩ := cf.shape
     have h := hv
     refine WL.store (v := ag [vB bk, vi bl, vi bm, vi bn, vu bo, vu bp, vi bq, vu br, vi bs, (Value.slice bL bM bO), vi bt, (Value.slice bP bQ bR)]) (cells' := [vB bk, vi bl, vi bm, vi bn, vu bo, vu bp, vi bq, vu br, vi bs, (Value.slice bL bM bO), vi bt, (Value.slice bP bQ bR)]) ty32 z z cH z (le_ z) z z ?_
     intro l8 j hw
     refine nl (At.dq (su_ j z) (WD.heavy 14 z (by kernel_rfl) ?_))
     have cM := cJ.f j z
     have hx := h
     obtain ⟨a5, a6, a7, rfl⟩ := cM.shape
     have h := hx
     have cN := cK.f j z
     have hy := h
     obtain ⟨q, r, t, rfl⟩ := cN.shape
     have h := hy
     have cO := cL.f j z
     have hz := h
     obtain ⟨C, D, E, rfl⟩ := cO.shape
     have h := hz
     have hA := cI.st j z
     refine WL.store (v := ag [vs a4, (Value.slice a5 a6 a7), vi aJ, vi aG, vB ak, vi aj, vi ad, vi ab, vu Z, vu Q, vi L, vu p, vi n, (Value.slice q r t), vi o, (Value.slice C D E), vi M]) (cells' := [vs a4, (Value.slice a5 a6 a7), vi aJ, vi aG, vB ak, vi aj, vi ad, vi ab, vu Z, vu Q, vi L, vu p, vi n, (Value.slice q r t), vi o, (Value.slice C D E), vi M]) ty37 z z hA z (le_ z) z z ?_
     intro l9 l hC
     refine nl (At.dq (su_ l z) (WD.y 15 z (by kernel_rfl) (fun _ _ _ => ya z) z (WD.done_ (by kernel_rfl) (th (sq (rg (wY (ym z) z (wY (Y.eql_i z z) z (nl ?_)))))))))
     refine th ?_
     rcases cnd h with ⟨cg, h⟩ | ⟨cg, h⟩
     ·refine WC.condT' z cg (sq (rg (wY (ym z) z (wY (ym z) z (wY (ym z) z ?_)))))
      obtain ⟨a, hD, h⟩ := bnd h
      have hE := cy.i P z z
      have hF := hE.i j z z
      have hG := hF.i l z z
      obtain ⟨mw, lA, lB, ma, hH, hI, hJ, ch, ds, hK⟩ := Sl.at2 hG hD
      obtain ⟨_, _, rfl, rfl, ⟨_, _, rfl, ⟨k6, rfl, cP⟩, ⟨_, _, rfl, rfl, ⟨_, _, rfl, rfl, ⟨_, _, rfl, rfl, ⟨_, _, rfl, rfl, ⟨_, _, rfl, rfl, ⟨_, _, rfl, rfl, ⟨_, _, rfl, rfl, ⟨_, _, rfl, rfl, ⟨_, _, rfl, ⟨_, _, rfl, rfl, ⟨_, _, rfl, rfl, ⟨_, _, rfl, ⟨_, _, rfl, rfl, ⟨k7, rfl, cQ⟩⟩, ⟨_, _, rfl, rfl, ⟨k8, rfl, cR⟩⟩⟩⟩⟩, rfl⟩⟩⟩⟩⟩⟩⟩⟩⟩⟩⟩ := ds
      replace ch : CellsAt _ _ _ [vs a.Name, k6, vi a.Kind, vi a.Temp, vB a.Mono, vi a.Start, vi a.Time, vi a.Int_, vu a.Re, vu a.Im, vi a.Hist.Scale, vu a.Hist.Zero, vi a.Hist.Pos.Offset, k7, vi a.Hist.Neg.Offset, k8, vi a.Flags] := ch
      have dt := CAt.imm ch hK
      refine wY (Y.indexAddr ty22 ty37 z hH z hI hJ) z (wY (yL ty37 z z dt.at_ z) z ?_)
      have hL := h
      obtain ⟨b4, b5, b6, rfl⟩ := cP.shape
      have h := hL
      have hM := h
      obtain ⟨S, T, U, rfl⟩ := cQ.shape
      have h := hM
      have hN := h
      obtain ⟨V, W, X, rfl⟩ := cR.shape
      have h := hN
      refine WL.buildSlice (O := kY) (R := rep_api_Point) (vals := [(0, ag [vs a.Name, (Value.slice b4 b5 b6), vi a.Kind, vi a.Temp, vB a.Mono, vi a.Start, vi a.Time, vi a.Int_, vu a.Re, vu a.Im, vi a.Hist.Scale, vu a.Hist.Zero, vi a.Hist.Pos.Offset, (Value.slice S T U), vi a.Hist.Neg.Offset, (Value.slice V W X), vi a.Flags])]) 22 [vs a.Name, (Value.slice b4 b5 b6), vi a.Kind, vi a.Temp, vB a.Mono, vi a.Start, vi a.Time, vi a.Int_, vu a.Re, vu a.Im, vi a.Hist.Scale, vu a.Hist.Zero, vi a.Hist.Pos.Offset, (Value.slice S T U), vi a.Hist.Neg.Offset, (Value.slice V W X), vi a.Flags] (xs := [a]) (by decide) ty22 ty37 (by decide) (by decide) (fe_ z) (by kernel_rfl) z ⟨[vs a.Name, (Value.slice b4 b5 b6), vi a.Kind, vi a.Temp, vB a.Mono, vi a.Start, vi a.Time, vi a.Int_, vu a.Re, vu a.Im, vi a.Hist.Scale, vu a.Hist.Zero, vi a.Hist.Pos.Offset, (Value.slice S T U), vi a.Hist.Neg.Offset, (Value.slice V W X), vi a.Flags], [], z, ⟨[vs a.Name], [(Value.slice b4 b5 b6), vi a.Kind, vi a.Temp, vB a.Mono, vi a.Start, vi a.Time, vi a.Int_, vu a.Re, vu a.Im, vi a.Hist.Scale, vu a.Hist.Zero, vi a.Hist.Pos.Offset, (Value.slice S T U), vi a.Hist.Neg.Offset, (Value.slice V W X), vi a.Flags], z, z, ⟨[(Value.slice b4 b5 b6)], [vi a.Kind, vi a.Temp, vB a.Mono, vi a.Start, vi a.Time, vi a.Int_, vu a.Re, vu a.Im, vi a.Hist.Scale, vu a.Hist.Zero, vi a.Hist.Pos.Offset, (Value.slice S T U), vi a.Hist.Neg.Offset, (Value.slice V W X), vi a.Flags], z, ⟨_, z, cP⟩, ⟨[vi a.Kind], [vi a.Temp, vB a.Mono, vi a.Start, vi a.Time, vi a.Int_, vu a.Re, vu a.Im, vi a.Hist.Scale, vu a.Hist.Zero, vi a.Hist.Pos.Offset, (Value.slice S T U), vi a.Hist.Neg.Offset, (Value.slice V W X), vi a.Flags], z, z, ⟨[vi a.Temp], [vB a.Mono, vi a.Start, vi a.Time, vi a.Int_, vu a.Re, vu a.Im, vi a.Hist.Scale, vu a.Hist.Zero, vi a.Hist.Pos.Offset, (Value.slice S T U), vi a.Hist.Neg.Offset, (Value.slice V W X), vi a.Flags], z, z, ⟨[vB a.Mono], [vi a.Start, vi a.Time, vi a.Int_, vu a.Re, vu a.Im, vi a.Hist.Scale, vu a.Hist.Zero, vi a.Hist.Pos.Offset, (Value.slice S T U), vi a.Hist.Neg.Offset, (Value.slice V W X), vi a.Flags], z, z, ⟨[vi a.Start], [vi a.Time, vi a.Int_, vu a.Re, vu a.Im, vi a.Hist.Scale, vu a.Hist.Zero, vi a.Hist.Pos.Offset, (Value.slice S T U), vi a.Hist.Neg.Offset, (Value.slice V W X), vi a.Flags], z, z, ⟨[vi a.Time], [vi a.Int_, vu a.Re, vu a.Im, vi a.Hist.Scale, vu a.Hist.Zero, vi a.Hist.Pos.Offset, (Value.slice S T U), vi a.Hist.Neg.Offset, (Value.slice V W X), vi a.Flags], z, z, ⟨[vi a.Int_], [vu a.Re, vu a.Im, vi a.Hist.Scale, vu a.Hist.Zero, vi a.Hist.Pos.Offset, (Value.slice S T U), vi a.Hist.Neg.Offset, (Value.slice V W X), vi a.Flags], z, z, ⟨[vu a.Re], [vu a.Im, vi a.Hist.Scale, vu a.Hist.Zero, vi a.Hist.Pos.Offset, (Value.slice S T U), vi a.Hist.Neg.Offset, (Value.slice V W X), vi a.Flags], z, z, ⟨[vu a.Im], [vi a.Hist.Scale, vu a.Hist.Zero, vi a.Hist.Pos.Offset, (Value.slice S T U), vi a.Hist.Neg.Offset, (Value.slice V W X), vi a.Flags], z, z, ⟨[vi a.Hist.Scale, vu a.Hist.Zero, vi a.Hist.Pos.Offset, (Value.slice S T U), vi a.Hist.Neg.Offset, (Value.slice V W X)], [vi a.Flags], z, ⟨[vi a.Hist.Scale], [vu a.Hist.Zero, vi a.Hist.Pos.Offset, (Value.slice S T U), vi a.Hist.Neg.Offset, (Value.slice V W X)], z, z, ⟨[vu a.Hist.Zero], [vi a.Hist.Pos.Offset, (Value.slice S T U), vi a.Hist.Neg.Offset, (Value.slice V W X)], z, z, ⟨[vi a.Hist.Pos.Offset, (Value.slice S T U)], [vi a.Hist.Neg.Offset, (Value.slice V W X)], z, ⟨[vi a.Hist.Pos.Offset], [(Value.slice S T U)], z, z, ⟨_, z, cQ⟩⟩, ⟨[vi a.Hist.Neg.Offset], [(Value.slice V W X)], z, z, ⟨_, z, cR⟩⟩⟩⟩⟩, z⟩⟩⟩⟩⟩⟩⟩⟩⟩⟩⟩, z⟩ z ?_
      intro mx my mb aa hO
      obtain ⟨hP, du, h⟩ := bnd h
      have hQ := ca.st e z z z
      have hR := hQ.st P z z z
      have hS := hR.st j z z z
      have hT := hS.st l z z z
      have hU := hT.st aa z z z
      refine WL.append (by decide) ty22 ty37 z (by decide) z z hU hO.src du z ?_
      intro k9 la mc ac hV
      refine wY (ya z) z (nl (th (sq (rg (wY (ym z) z ?_)))))
      have hW := hC.st aa z
      have hX := hW.st ac z
      refine wY (yL ty37 z z (hX.cells 0 [vs a4, (Value.slice a5 a6 a7), vi aJ, vi aG, vB ak, vi aj, vi ad, vi ab, vu Z, vu Q, vi L, vu p, vi n, (Value.slice q r t), vi o, (Value.slice C D E), vi M] z) z) z ?_
      have hY := cM.f l z
      have hZ := hY.f aa z
      have h0 := hZ.f ac z
      have h1 := cN.f l z
      have h2 := h1.f aa z
      have h3 := h2.f ac z
      have h4 := cO.f l z
      have h5 := h4.f aa z
      have h6 := h5.f ac z
      refine WL.buildSlice (O := la) (R := rep_api_Point) (vals := [(0, ag [vs a4, (Value.slice a5 a6 a7), vi aJ, vi aG, vB ak, vi aj, vi ad, vi ab, vu Z, vu Q, vi L, vu p, vi n, (Value.slice q r t), vi o, (Value.slice C D E), vi M])]) 23 [vs a4, (Value.slice a5 a6 a7), vi aJ, vi aG, vB ak, vi aj, vi ad, vi ab, vu Z, vu Q, vi L, vu p, vi n, (Value.slice q r t), vi o, (Value.slice C D E), vi M] (xs := [(api_Point.mk a4 kU aJ aG ak aj ad ab Z Q (api_Hist.mk L p (api_Side.mk n kV) (api_Side.mk o kW)) M)]) (by decide) ty22 ty37 (by decide) (by decide) (fe_ z) (by kernel_rfl) z ⟨[vs a4, (Value.slice a5 a6 a7), vi aJ, vi aG, vB ak, vi aj, vi ad, vi ab, vu Z, vu Q, vi L, vu p, vi n, (Value.slice q r t), vi o, (Value.slice C D E), vi M], [], z, ⟨[vs a4], [(Value.slice a5 a6 a7), vi aJ, vi aG, vB ak, vi aj, vi ad, vi ab, vu Z, vu Q, vi L, vu p, vi n, (Value.slice q r t), vi o, (Value.slice C D E), vi M], z, z, ⟨[(Value.slice a5 a6 a7)], [vi aJ, vi aG, vB ak, vi aj, vi ad, vi ab, vu Z, vu Q, vi L, vu p, vi n, (Value.slice q r t), vi o, (Value.slice C D E), vi M], z, ⟨_, z, (Sl.mono h0 frs_imm)⟩, ⟨[vi aJ], [vi aG, vB ak, vi aj, vi ad, vi ab, vu Z, vu Q, vi L, vu p, vi n, (Value.slice q r t), vi o, (Value.slice C D E), vi M], z, z, ⟨[vi aG], [vB ak, vi aj, vi ad, vi ab, vu Z, vu Q, vi L, vu p, vi n, (Value.slice q r t), vi o, (Value.slice C D E), vi M], z, z, ⟨[vB ak], [vi aj, vi ad, vi ab, vu Z, vu Q, vi L, vu p, vi n, (Value.slice q r t), vi o, (Value.slice C D E), vi M], z, z, ⟨[vi aj], [vi ad, vi ab, vu Z, vu Q, vi L, vu p, vi n, (Value.slice q r t), vi o, (Value.slice C D E), vi M], z, z, ⟨[vi ad], [vi ab, vu Z, vu Q, vi L, vu p, vi n, (Value.slice q r t), vi o, (Value.slice C D E), vi M], z, z, ⟨[vi ab], [vu Z, vu Q, vi L, vu p, vi n, (Value.slice q r t), vi o, (Value.slice C D E), vi M], z, z, ⟨[vu Z], [vu Q, vi L, vu p, vi n, (Value.slice q r t), vi o, (Value.slice C D E), vi M], z, z, ⟨[vu Q], [vi L, vu p, vi n, (Value.slice q r t), vi o, (Value.slice C D E), vi M], z, z, ⟨[vi L, vu p, vi n, (Value.slice q r t), vi o, (Value.slice C D E)], [vi M], z, ⟨[vi L], [vu p, vi n, (Value.slice q r t), vi o, (Value.slice C D E)], z, z, ⟨[vu p], [vi n, (Value.slice q r t), vi o, (Value.slice C D E)], z, z, ⟨[vi n, (Value.slice q r t)], [vi o, (Value.slice C D E)], z, ⟨[vi n], [(Value.slice q r t)], z, z, ⟨_, z, (Sl.mono h3 frs_imm)⟩⟩, ⟨[vi o], [(Value.slice C D E)], z, z, ⟨_, z, (Sl.mono h6 frs_imm)⟩⟩⟩⟩⟩, z⟩⟩⟩⟩⟩⟩⟩⟩⟩⟩⟩, z⟩ z ?_
      intro mz mA md aK h7
      obtain ⟨h8, dw, h⟩ := bnd h
      have h9 := cb.st e z z z
      have ia := h9.st P z z z
      have ib := ia.st j z z z
      have ic := ib.st l z z z
      have ie := ic.st aa z z z
      have ig := ie.st ac z z z
      have ih := ig.st aK z z z
      refine WL.append (by decide) ty22 ty37 z (by decide) z z ih h7.src dw z ?_
      intro lb mB me a3 ii
      refine wY (ya z) z (nl (th (rg ?_)))
      have ij := hw.st l z
      have ik := ij.st aa z
      have il := ik.st ac z
      have im := il.st aK z
      have io := im.st a3 z
      refine wY (yL ty32 z z (io.cells 0 [vB bk, vi bl, vi bm, vi bn, vu bo, vu bp, vi bq, vu br, vi bs, (Value.slice bL bM bO), vi bt, (Value.slice bP bQ bR)] z) z) z ?_
      have ip := cc.st e z
      have iq := ip.st P z
      have ir := iq.st j z
      have it := ir.st l z
      have iu := it.st aa z
      have iv := iu.st ac z
      have iw := iv.st aK z
      have ix := iw.st a3 z
      refine WL.store (v := ag [vB bk, vi bl, vi bm, vi bn, vu bo, vu bp, vi bq, vu br, vi bs, (Value.slice bL bM bO), vi bt, (Value.slice bP bQ bR)]) (cells' := [vB bk, vi bl, vi bm, vi bn, vu bo, vu bp, vi bq, vu br, vi bs, (Value.slice bL bM bO), vi bt, (Value.slice bP bQ bR)]) ty32 z z ix z (le_ z) z z ?_
      intro mf a8 iy
      refine nl (At.inBlock ?_)
      have iz := hV.st aK z z z
      have iA := iz.st a3 z z z
      have iB := iA.st a8 z z z
      obtain ⟨mC, a9, iC⟩ := OwnSl.rlb 1005 rfl iB
      have iD := ii.st a8 z z z
      have iE := iD.st a9 z z z
      obtain ⟨lc, ba, iF⟩ := OwnSl.rlb 1006 rfl iE
      have iG := iC.st ba z z z
      have iH := ce.f j z
      have iI := iH.f l z
      have iJ := iI.f aa z
      have iK := iJ.f ac z
      have iL := iK.f aK z
      have iM := iL.f a3 z
      have iN := iM.f a8 z
      have iO := iN.f a9 z
      have iP := iO.f ba z
      have iQ := cf.f j z
      have iR := iQ.f l z
      have iS := iR.f aa z
      have iT := iS.f ac z
      have iU := iT.f aK z
      have iV := iU.f a3 z
      have iW := iV.f a8 z
      have iX := iW.f a9 z
      have iY := iX.f ba z
      have iZ := iy.st a9 z
      have i0 := iZ.st ba z
      exact At.join (σ := (List api_Point × List api_Point × Bool × Int × Int × Int × UInt64 × UInt64 × Int × UInt64 × Int × List UInt64 × Int × List UInt64 × Own × Value × Value × Value × Value)) (hP, h8, bk, bl, bm, bn, bo, bp, bq, br, bs, kS, bt, kT, lc, k9, lb, (Value.slice bL bM bO), (Value.slice bP bQ bR)) ⟨some1 h, (tr_ (su_ e z) (tr_ (su_ P z) (tr_ (su_ j z) (tr_ (su_ l z) (tr_ (su_ aa z) (tr_ (su_ ac z) (tr_ (su_ aK z) (tr_ (su_ a3 z) (tr_ (su_ a8 z) (tr_ (su_ a9 z) (su_ ba z))))))))))), iG, iF, iP, iY, i0⟩ (.cons z (.cons z (.cons z (.cons z (.cons z (.cons z .nil))))))
     ·refine WC.condF' z cg (sk (At.inBlock ?_))
      have i1 := ca.st e z z z
      have i2 := i1.st P z z z
      have i3 := i2.st j z z z
      have i4 := i3.st l z z z
      obtain ⟨mD, bb, i5⟩ := OwnSl.rlb 1005 rfl i4
      have i6 := cb.st e z z z
      have i7 := i6.st P z z z
      have i8 := i7.st j z z z
      have i9 := i8.st l z z z
      have ja := i9.st bb z z z
      obtain ⟨ld, bc, jb⟩ := OwnSl.rlb 1006 rfl ja
      have jc := i5.st bc z z z
      have jd := bh.f e z
      have je := jd.f P z
      have jf := je.f j z
      have jg := jf.f l z
      have jh := jg.f bb z
      have ji := jh.f bc z
      have jj := bi.f e z
      have jk := jj.f P z
      have jl := jk.f j z
      have jm := jl.f l z
      have jn := jm.f bb z
      have jo := jn.f bc z
      have jp := cc.st e z
      have jq := jp.st P z
      have jr := jq.st j z
      have js := jr.st l z
      have jt := js.st bb z
      have ju := jt.st bc z
      exact At.join (σ := (List api_Point × List api_Point × Bool × Int × Int × Int × UInt64 × UInt64 × Int × UInt64 × Int × List UInt64 × Int × List UInt64 × Own × Value × Value × Value × Value)) (cp, b9, aL, aM, aN, aO, aP, aQ, aR, aS, aT, bU, aU, bW, ld, cj, ck, bX, bY) ⟨some1 h, (tr_ (su_ e z) (tr_ (su_ P z) (tr_ (su_ j z) (tr_ (su_ l z) (tr_ (su_ bb z) (su_ bc z)))))), jc, jb, ji, jo, ju⟩ (.cons z (.cons z (.cons z (.cons z (.cons z (.cons z .nil))))))
   ·rintro ⟨lf, jv, lC, lD, lE, lF, lG, lH, lI, lJ, lK, lL, lM, lN, mL, jR, jS, lO, lP⟩ mE ⟨rfl, cS, dx, dy, dz, dA, dB⟩
    replace h := j2
    try dsimp only at h cS dx dy dz dA dB
    refine (show At _ _ _ [(0, v0), (1, vi a1), (6, jR), (7, jS), (8, pt bS 0), (9, vi b7)] _ from ?_)
    refine th (rg (wY (ym z) z (wY (Y.add_i z z) z ?_)))
    obtain ⟨lg, jw, h⟩ := lt1 h
    refine WL.yE (ya z) (congrArg vi jw.symm) z (nl ?_)
    obtain ⟨mF, bd, jx⟩ := OwnSl.rlb 1009 rfl dx
    have jy := dy.st bd z z z
    obtain ⟨lh, bf, jz⟩ := OwnSl.rlb 1010 rfl jy
    have jA := jx.st bf z z z
    have jB := dz.f bd z
    have jC := jB.f bf z
    have jD := dA.f bd z
    have jE := jD.f bf z
    have jF := dB.st bd z
    have jG := jF.st bf z
    exact At.round (lf, jv, lC, lD, lE, lF, lG, lH, lI, lJ, lK, lL, lM, lN, lg, lh, jR, jS, lO, lP) lv (Nat.lt_succ_self _) ⟨next1 h cW, (tr_ (su_ bT z) (tr_ (su_ cS z) (tr_ (su_ bd z) (su_ bf z)))), jA, jz, jC, jE, jG⟩ (.cons z (.cons z (.cons z (.cons z (.cons z (.cons z .nil))))))
  ·refine WC.condF' z cq (WC.exit (At.thenX (At.loopX ?_)))
   obtain ⟨mG, cl, jH⟩ := OwnSl.rlb 1017 rfl ca
   have jI := cb.st cl z z z
   obtain ⟨li, cm, jJ⟩ := OwnSl.rlb 1018 rfl jI
   have jK := jH.st cm z z z
   exact At.hitB (σ := (List api_Point × List api_Point × Own × Value × Value)) (cp, b9, li, cj, ck) ⟨brk1 h cW, (tr_ (su_ bT z) (tr_ (su_ cl z) (su_ cm z))), jK, jJ⟩ (.cons z (.cons z .nil))
 ·rintro ⟨mH, mg, mM, jT, jU⟩ lj ⟨rfl, cT, dC, dD⟩
  replace h := flowK_go jY
  try dsimp only at h cT dC dD
  refine (show At _ _ _ [(6, jT), (7, jU)] _ from ?_)
  refine At.inBlockHit (th (sq (rg (wY (ym z) z (wY (ym z) z (wY (ya z) z (wY (ya z) z (nl (th ?_)))))))))
  refine rt ?_
  obtain ⟨rfl, rfl⟩ := tup2 h
  obtain ⟨mI, cn, jL⟩ := OwnSl.give rfl dC
  have jM := dD.st cn z z z
  obtain ⟨ll, co, jN⟩ := OwnSl.give rfl jM
  have ci : Stp [11, 12, 13, 14, 15, 16, 17, 18, 19, 20, 21, 23, 25, 1001, 1002, 1005, 1006, 1009, 1010, 1017, 1018] (Lg.O0 A) w ll lj := (tr_ (su_ cw z) (tr_ (su_ cx z) (tr_ (su_ cT z) (tr_ (su_ cn z) (su_ co z)))))
  have jO := jL.i co z z
  exact At.res (.inl z) z (.tmp z (.tmp z .nil)) ⟨jT, jU, z, (se_ ci z z), (Sl.outI jO ci low0 O0_A), (Sl.outI jN ci low0 O0_A)⟩
theorem c_todelta_check {A : Nat → Prop} {v0_9 : Value} {v0_11 : Value} {a0 : api_State} {v1_1 : Value} {v1_13 : Value} {v1_15 : Value} {a1 : api_Point} {w : World} (hs0_9 : Sl Rep.u w A v0_9 a0.Hist.Pos.Counts) (hs0_11 : Sl Rep.u w A v0_11 a0.Hist.Neg.Counts) (hs1_1 : Sl rep_api_Pair w A v1_1 a1.Attrs) (hs1_13 : Sl Rep.u w A v1_13 a1.Hist.Pos.Counts) (hs1_15 : Sl Rep.u w A v1_15 a1.Hist.Neg.Counts) {r0 : Int} (h : todelta_check a0 a1 = some r0) : Rets Try.prog 63 [ag [vB a0.Some, vi a0.Start, vi a0.Time, vi a0.Int_, vu a0.Re, vu a0.Im, vi a0.Hist.Scale, vu a0.Hist.Zero, vi a0.Hist.Pos.Offset, v0_9, vi a0.Hist.Neg.Offset, v0_11], ag [vs a1.Name, v1_1, vi a1.Kind, vi a1.Temp, vB a1.Mono, vi a1.Start, vi a1.Time, vi a1.Int_, vu a1.Re, vu a1.Im, vi a1.Hist.Scale, vu a1.Hist.Zero, vi a1.Hist.Pos.Offset, v1_13, vi a1.Hist.Neg.Offset, v1_15, vi a1.Flags]] w (fun v w' => v = vi r0 ∧ Ext w w') := by
 unfold todelta_check at h
 refine Rets.enter Try.func63 z z ?_
 have t : Sl Rep.u w (imm (Lg.O0 A)) v0_9 a0.Hist.Pos.Counts := (Sl.start hs0_9)
 have C : Sl Rep.u w (imm (Lg.O0 A)) v0_11 a0.Hist.Neg.Counts := (Sl.start hs0_11)
 have D : Sl rep_api_Pair w (imm (Lg.O0 A)) v1_1 a1.Attrs := (Sl.start hs1_1)
 have E : Sl Rep.u w (imm (Lg.O0 A)) v1_13 a1.Hist.Pos.Counts := (Sl.start hs1_13)
 have F : Sl Rep.u w (imm (Lg.O0 A)) v1_15 a1.Hist.Neg.Counts := (Sl.start hs1_15)
 refine (show WC _ _ _ _ [(0, ag [vB a0.Some, vi a0.Start, vi a0.Time, vi a0.Int_, vu a0.Re, vu a0.Im, vi a0.Hist.Scale, vu a0.Hist.Zero, vi a0.Hist.Pos.Offset, v0_9, vi a0.Hist.Neg.Offset, v0_11]), (1, ag [vs a1.Name, v1_1, vi a1.Kind, vi a1.Temp, vB a1.Mono, vi a1.Start, vi a1.Time, vi a1.Int_, vu a1.Re, vu a1.Im, vi a1.Hist.Scale, vu a1.Hist.Zero, vi a1.Hist.Pos.Offset, v1_13, vi a1.Hist.Neg.Offset, v1_15, vi a1.Flags])] _ from ?_)
 refine sq (rg ?_)
 have G := h
 obtain ⟨ad, ae, af, rfl⟩ := t.shape
 have h := G
 have H := h
 obtain ⟨ah, ai, aj, rfl⟩ := C.shape
 have h := H
 refine WL.box (O := (Lg.O0 A)) 11 [vB a0.Some, vi a0.Start, vi a0.Time, vi a0.Int_, vu a0.Re, vu a0.Im, vi a0.Hist.Scale, vu a0.Hist.Zero, vi a0.Hist.Pos.Offset, (Value.slice ad ae af), vi a0.Hist.Neg.Offset, (Value.slice ah ai aj)] z z z ?_
 intro ax ak aw a I
 have J := D.i a z z
 have K := h
 obtain ⟨al, am, an, rfl⟩ := J.shape
 have h := K
 have L := E.i a z z
 have M := h
 obtain ⟨ao, ap, aq, rfl⟩ := L.shape
 have h := M
 have P := F.i a z z
 have Q := h
 obtain ⟨ar, au, av, rfl⟩ := P.shape
 have h := Q
 refine WL.box (O := ak) 12 [vs a1.Name, (Value.slice al am an), vi a1.Kind, vi a1.Temp, vB a1.Mono, vi a1.Start, vi a1.Time, vi a1.Int_, vu a1.Re, vu a1.Im, vi a1.Hist.Scale, vu a1.Hist.Zero, vi a1.Hist.Pos.Offset, (Value.slice ao ap aq), vi a1.Hist.Neg.Offset, (Value.slice ar au av), vi a1.Flags] z z z ?_
 intro ay j d c l
 refine wY (ya z) z (nl (th (sq (WC.block (sq (rg (wY (yf fo32_0 z) z ?_)))))))
 have e := I.st c z
 refine wY (yl ty4 z z (e.cell 0 _ z)) z (wY (Y.not z) z ?_)
 obtain ⟨az, S, h⟩ := lt1 h
 refine WL.yE (ya z) (congrArg vB S.symm) z (nl (th ?_))
 rcases cnd h with ⟨m, h⟩ | ⟨m, h⟩
 ·refine WC.condT' z m (sq (rg (wY (ya z) z (nl (th (rt (At.inBlockR (At.thenR ?_))))))))
  obtain rfl := some1 h
  have T : Stp [] (Lg.O0 A) w j d := (tr_ (su_ a z) (su_ c z))
  exact At.res (.inl z) z (.tmp z .nil) ⟨z, (se_ T z z)⟩
 ·refine WC.condF' z m (sq (rg (wY (yf fo37_6 z) z (wY (yl ty3 z z (l.cell 6 _ z)) z (wY (yf fo32_2 z) z (wY (yl ty3 z z (e.cell 2 _ z)) z (wY (Y.leq_i z z) z ?_)))))))
  obtain ⟨aA, U, h⟩ := lt1 h
  refine WL.yE (ya z) (congrArg vB U.symm) z (nl (th ?_))
  rcases cnd h with ⟨n, h⟩ | ⟨n, h⟩
  ·refine WC.condT' z n (sq (rg (wY (ya z) z (nl (th (rt (At.inBlockR (At.thenR ?_))))))))
   obtain rfl := some1 h
   have V : Stp [] (Lg.O0 A) w j d := (tr_ (su_ a z) (su_ c z))
   exact At.res (.inl z) z (.tmp z .nil) ⟨z, (se_ V z z)⟩
  ·refine WC.condF' z n (sq (sq (rg (wY (yf fo37_5 z) z (wY (yl ty3 z z (l.cell 5 _ z)) z (wY (yf fo32_1 z) z (wY (yl ty3 z z (e.cell 1 _ z)) z (wY (Y.lss_i z z) z ?_))))))))
   obtain ⟨aC, W, h⟩ := lt1 h
   refine WL.yE (ya z) (congrArg vB W.symm) z (nl (th ?_))
   rcases cnd h with ⟨o, h⟩ | ⟨o, h⟩
   ·refine WC.condT' z o (sk (th ?_))
    rcases cnd h with ⟨p, h⟩ | ⟨p, h⟩
    ·refine WC.condT' z p (sq (rg (wY (ya z) z (nl (th (rt (At.inBlockR (At.thenR ?_))))))))
     obtain rfl := some1 h
     have X : Stp [] (Lg.O0 A) w j d := (tr_ (su_ a z) (su_ c z))
     exact At.res (.inl z) z (.tmp z .nil) ⟨z, (se_ X z z)⟩
    ·refine WC.condF' z p (sk (At.inBlock (th (sq (rg (wY (ya z) z (nl (th (rt ?_)))))))))
     obtain rfl := some1 h
     have Z : Stp [] (Lg.O0 A) w j d := (tr_ (su_ a z) (su_ c z))
     exact At.res (.inl z) z (.tmp z .nil) ⟨z, (se_ Z z z)⟩
   ·refine WC.condF' z o (rg (wY (yf fo37_5 z) z (wY (yl ty3 z z (l.cell 5 _ z)) z (wY (yf fo32_1 z) z (wY (yl ty3 z z (e.cell 1 _ z)) z (wY (Y.gtr_i z z) z (wY (ym z) z ?_)))))))
    refine WL.cut 6 (σ := Unit) (fun _ w' => d = w') (fun _ => [(32, vB ((decide (a0.Start < a1.Start)) && (decide (a1.Start < a0.Time))))]) ?_ ?_
    ·refine WL.part 26 z (fun q => ?_) (fun q => ?_)
     ·refine ug z z (wY (yf fo37_5 z) z (ug z z (wY (yl ty3 z z (l.cell 5 _ z)) z (ug z z (wY (yf fo32_2 z) z (ug z z (wY (yl ty3 z z (e.cell 2 _ z)) z (ug z z (wY (Y.lss_i z z) z ?_)))))))))
      refine wY (Y.pick (b := true) z z) z (WL.ren (v' := vB ((decide (a0.Start < a1.Start)) && (decide (a1.Start < a0.Time)))) 32 z (congrArg vB (andT q)) ?_)
      exact nl (At.join () z (.cons z .nil))
     ·refine WL.gS z z z z (WL.gS z z z z (WL.gS z z z z (WL.gS z z z z (WL.gS z z z z (wY (Y.pick (b := false) z z) z (WL.ren (v' := vB ((decide (a0.Start < a1.Start)) && (decide (a1.Start < a0.Time)))) 32 z (congrArg vB (andF q)) ?_))))))
      exact nl (At.join () z (.cons z .nil))
    ·rintro _ _ rfl
     refine (show WL _ _ _ _ _ [(32, vB ((decide (a0.Start < a1.Start)) && (decide (a1.Start < a0.Time))))] _ from ?_)
     obtain ⟨aD, aa, h⟩ := lt1 h
     refine WL.yE (ya z) (congrArg vB aa.symm) z (nl (th ?_))
     rcases cnd h with ⟨r, h⟩ | ⟨r, h⟩
     ·refine WC.condT' z r (sq (rg (wY (ya z) z (nl (th (rt (At.inBlockR (At.thenR ?_))))))))
      obtain rfl := some1 h
      have ab : Stp [] (Lg.O0 A) w j d := (tr_ (su_ a z) (su_ c z))
      exact At.res (.inl z) z (.tmp z .nil) ⟨z, (se_ ab z z)⟩
     ·refine WC.condF' z r (sk (At.inBlock (th (sq (rg (wY (ya z) z (nl (th (rt ?_)))))))))
      obtain rfl := some1 h
      have ac : Stp [] (Lg.O0 A) w j d := (tr_ (su_ a z) (su_ c z))
      exact At.res (.inl z) z (.tmp z .nil) ⟨z, (se_ ac z z)⟩
theorem c_todelta_begins {A : Nat → Prop} {v0_9 : Value} {v0_11 : Value} {a0 : api_State} {v1_1 : Value} {v1_13 : Value} {v1_15 : Value} {a1 : api_Point} {w : World} (hs0_9 : Sl Rep.u w A v0_9 a0.Hist.Pos.Counts) (hs0_11 : Sl Rep.u w A v0_11 a0.Hist.Neg.Counts) (hs1_1 : Sl rep_api_Pair w A v1_1 a1.Attrs) (hs1_13 : Sl Rep.u w A v1_13 a1.Hist.Pos.Counts) (hs1_15 : Sl Rep.u w A v1_15 a1.Hist.Neg.Counts) {r0 : Int} (h : todelta_begins a0 a1 = some r0) : Rets Try.prog 65 [ag [vB a0.Some, vi a0.Start, vi a0.Time, vi a0.Int_, vu a0.Re, vu a0.Im, vi a0.Hist.Scale, vu a0.Hist.Zero, vi a0.Hist.Pos.Offset, v0_9, vi a0.Hist.Neg.Offset, v0_11], ag [vs a1.Name, v1_1, vi a1.Kind, vi a1.Temp, vB a1.Mono, vi a1.Start, vi a1.Time, vi a1.Int_, vu a1.Re, vu a1.Im, vi a1.Hist.Scale, vu a1.Hist.Zero, vi a1.Hist.Pos.Offset, v1_13, vi a1.Hist.Neg.Offset, v1_15, vi a1.Flags]] w (fun v w' => v = vi r0 ∧ Ext w w') := by
 unfold todelta_begins at h
 refine Rets.enter Try.func65 z z ?_
 have p : Sl Rep.u w (imm (Lg.O0 A)) v0_9 a0.Hist.Pos.Counts := (Sl.start hs0_9)
 have q : Sl Rep.u w (imm (Lg.O0 A)) v0_11 a0.Hist.Neg.Counts := (Sl.start hs0_11)
 have r : Sl rep_api_Pair w (imm (Lg.O0 A)) v1_1 a1.Attrs := (Sl.start hs1_1)
 have t : Sl Rep.u w (imm (Lg.O0 A)) v1_13 a1.Hist.Pos.Counts := (Sl.start hs1_13)
 have C : Sl Rep.u w (imm (Lg.O0 A)) v1_15 a1.Hist.Neg.Counts := (Sl.start hs1_15)
 refine (show WC _ _ _ _ [(0, ag [vB a0.Some, vi a0.Start, vi a0.Time, vi a0.Int_, vu a0.Re, vu a0.Im, vi a0.Hist.Scale, vu a0.Hist.Zero, vi a0.Hist.Pos.Offset, v0_9, vi a0.Hist.Neg.Offset, v0_11]), (1, ag [vs a1.Name, v1_1, vi a1.Kind, vi a1.Temp, vB a1.Mono, vi a1.Start, vi a1.Time, vi a1.Int_, vu a1.Re, vu a1.Im, vi a1.Hist.Scale, vu a1.Hist.Zero, vi a1.Hist.Pos.Offset, v1_13, vi a1.Hist.Neg.Offset, v1_15, vi a1.Flags])] _ from ?_)
 refine sq (rg ?_)
 have D := h
 obtain ⟨W, X, Z, rfl⟩ := p.shape
 have h := D
 have E := h
 obtain ⟨aa, ab, ac, rfl⟩ := q.shape
 have h := E
 refine WL.box (O := (Lg.O0 A)) 11 [vB a0.Some, vi a0.Start, vi a0.Time, vi a0.Int_, vu a0.Re, vu a0.Im, vi a0.Hist.Scale, vu a0.Hist.Zero, vi a0.Hist.Pos.Offset, (Value.slice W X Z), vi a0.Hist.Neg.Offset, (Value.slice aa ab ac)] z z z ?_
 intro ap ad ao a F
 have G := r.i a z z
 have H := h
 obtain ⟨ae, af, ah, rfl⟩ := G.shape
 have h := H
 have I := t.i a z z
 have J := h
 obtain ⟨ai, aj, ak, rfl⟩ := I.shape
 have h := J
 have K := C.i a z z
 have L := h
 obtain ⟨al, am, an, rfl⟩ := K.shape
 have h := L
 refine WL.box (O := ad) 12 [vs a1.Name, (Value.slice ae af ah), vi a1.Kind, vi a1.Temp, vB a1.Mono, vi a1.Start, vi a1.Time, vi a1.Int_, vu a1.Re, vu a1.Im, vi a1.Hist.Scale, vu a1.Hist.Zero, vi a1.Hist.Pos.Offset, (Value.slice ai aj ak), vi a1.Hist.Neg.Offset, (Value.slice al am an), vi a1.Flags] z z z ?_
 intro aq n d c o
 refine wY (ya z) z (nl (th (sq (WC.block (sq (rg (wY (yf fo32_0 z) z ?_)))))))
 have e := F.st c z
 refine wY (yl ty4 z z (e.cell 0 _ z)) z (wY (Y.not z) z ?_)
 obtain ⟨ar, M, h⟩ := lt1 h
 refine WL.yE (ya z) (congrArg vB M.symm) z (nl (th ?_))
 rcases cnd h with ⟨j, h⟩ | ⟨j, h⟩
 ·refine WC.condT' z j (sq (rg (wY (ya z) z (nl (th (rt (At.inBlockR (At.thenR ?_))))))))
  obtain rfl := some1 h
  have P : Stp [] (Lg.O0 A) w n d := (tr_ (su_ a z) (su_ c z))
  exact At.res (.inl z) z (.tmp z .nil) ⟨z, (se_ P z z)⟩
 ·refine WC.condF' z j (sq (rg (wY (yf fo37_5 z) z (wY (yl ty3 z z (o.cell 5 _ z)) z (wY (yf fo32_1 z) z (wY (yl ty3 z z (e.cell 1 _ z)) z (wY (Y.leq_i z z) z ?_)))))))
  obtain ⟨au, Q, h⟩ := lt1 h
  refine WL.yE (ya z) (congrArg vB Q.symm) z (nl (th ?_))
  rcases cnd h with ⟨l, h⟩ | ⟨l, h⟩
  ·refine WC.condT' z l (sq (rg (wY (ya z) z (nl (th (rt (At.inBlockR (At.thenR ?_))))))))
   obtain rfl := some1 h
   have S : Stp [] (Lg.O0 A) w n d := (tr_ (su_ a z) (su_ c z))
   exact At.res (.inl z) z (.tmp z .nil) ⟨z, (se_ S z z)⟩
  ·refine WC.condF' z l (sq (rg (wY (yf fo37_5 z) z (wY (yl ty3 z z (o.cell 5 _ z)) z (wY (yf fo32_2 z) z (wY (yl ty3 z z (e.cell 2 _ z)) z (wY (Y.gtr_i z z) z ?_)))))))
   obtain ⟨av, T, h⟩ := lt1 h
   refine WL.yE (ya z) (congrArg vB T.symm) z (nl (th ?_))
   rcases cnd h with ⟨m, h⟩ | ⟨m, h⟩
   ·refine WC.condT' z m (sq (rg (wY (ya z) z (nl (th (rt (At.inBlockR (At.thenR ?_))))))))
    obtain rfl := some1 h
    have U : Stp [] (Lg.O0 A) w n d := (tr_ (su_ a z) (su_ c z))
    exact At.res (.inl z) z (.tmp z .nil) ⟨z, (se_ U z z)⟩
   ·refine WC.condF' z m (sk (At.inBlock (th (sq (rg (wY (ya z) z (nl (th (rt ?_)))))))))
    obtain rfl := some1 h
    have V : Stp [] (Lg.O0 A) w n d := (tr_ (su_ a z) (su_ c z))
    exact At.res (.inl z) z (.tmp z .nil) ⟨z, (se_ V z z)⟩
theorem c_num_Sub {a0 : UInt64} {a1 : UInt64} {w : World} {r0 : UInt64} (h : num_Sub a0 a1 = some r0) : Rets Try.prog 89 [vu a0, vu a1] w (fun v w' => v = vu r0 ∧ Ext w w') := by
  unfold num_Sub at h
  obtain rfl := some1 h
  refine Rets.enter Try.func89 z z ?_
  refine (show WC _ _ _ _ [(0, vu a0), (1, vu a1)] _ from ?_)
  refine sq (rg (wY (ya (v := vu 0) z) z (nl (th ?_))))
  refine sq (rg ?_)
  refine wY (ym z) z (WL.call (vals := [vu a0]) kok72 z z (c_num_of) ?_)
  rintro I J ⟨rfl, l⟩
  obtain ⟨F, q, r, c⟩ := adoptE (Lg.O0 (fun _ => False)) (fun k => 1) l
  refine wY (ym z) z (WL.call (vals := [vu a1]) kok72 z z (c_num_of) ?_)
  rintro K L ⟨rfl, m⟩
  obtain ⟨n, t, C, d⟩ := adoptE F (fun k => 1) m
  refine WL.fsub (O := n) z z z ?_
  intro G M e a
  refine WL.call (vals := [.float .f64 G]) kok110 z z (c_num_bits a.1) ?_
  rintro P o ⟨rfl, p⟩
  obtain ⟨H, D, E, j⟩ := adoptE n (fun k => 1) p
  refine wY (ya z) z (nl (th (rt ?_)))
  rw [fSub_res a]
  have hs : Stp [] (Lg.O0 (fun _ => False)) w H o := (tr_ (su_ c z) (tr_ (su_ d z) (tr_ (su_ e z) (su_ j z))))
  exact At.res (.inl z) z (.tmp z .nil) ⟨z, se_ hs z z⟩
theorem c_todelta_finite {A : Nat → Prop} {a0 : List UInt64} {v0 : Value} {w : World} (hs0 : Sl Rep.u w A v0 a0) {r0 : Bool} (h : todelta_finite a0 = some r0) : Rets Try.prog 90 [v0] w (fun v w' => v = vB r0 ∧ Ext w w') := by
 unfold todelta_finite at h
 refine Rets.enter Try.func90 z z ?_
 have m : Sl Rep.u w (imm (Lg.O0 A)) v0 a0 := (Sl.start hs0)
 refine (show WC _ _ _ _ [(0, v0)] _ from ?_)
 refine sq (rg (wY (ya z) z (nl (th (sq (sq (rg (wY (ym z) z (wY (Y.len ty26 z m) z ?_)))))))))
 refine wY (ym z) z (nl (th (WC.block ?_)))
 obtain ⟨r, h, n⟩ := flow1 h
 obtain ⟨t, h⟩ := loop_some h
 refine WC.joinB 0 (σ := Own) (fun x w' => r = .go () ∧ Stp [] (Lg.O0 A) w x w') (fun x => []) ?_ ?_
 ·refine WC.loop (σ := (Int × Own)) (fun x k w' => loopN k (todelta_finite_lp1 a0) x.1 = some r ∧ Stp [] (Lg.O0 A) w x.2 w') (fun x => [(5, v0), (6, vi (a0.length : Int)), (7, vi x.1)]) (0, (Lg.O0 A)) t (.cons z (.cons z (.cons z .nil))) ⟨h, (sr_ _ _ _)⟩ ?_
  rintro ⟨C, D⟩ t ac ⟨h, a⟩
  obtain ⟨V, af, rfl, h, c⟩ := rnd1 h
  unfold todelta_finite_lp1 at h
  try dsimp only at h a
  refine (show WC _ _ _ _ [(5, v0), (6, vi (a0.length : Int)), (7, vi C)] _ from ?_)
  refine sq (rg (wY (Y.lss_i z z) z (nl (th (sq ?_)))))
  rcases cnd h with ⟨d, h⟩ | ⟨d, h⟩
  ·refine WC.condT' z d (sk (th (sq (WC.block (sq (rg ?_))))))
   obtain ⟨E, G, h⟩ := bnd h
   have H := m.i a z z
   obtain ⟨ah, aa, ab, ad, I, J, K, e, o, L⟩ := Sl.at2 H G
   obtain rfl := o
   replace e : CellsAt _ _ _ [vu E] := e
   have p := CAt.imm e L
   refine wY (Y.indexAddr ty26 ty25 z I z J K) z (wY (yl ty25 z z p.at_) z (wY (ya z) z (nl (th (sq (rg (wY (ym z) z ?_)))))))
   obtain ⟨ai, M, h⟩ := bnd h
   refine WL.call (vals := [vu E]) kok40 z z (c_num_Finite M) ?_
   rintro ae P ⟨rfl, Q⟩
   obtain ⟨F, W, X, l⟩ := adoptE D (fun k => 1) Q
   refine wY (Y.not z) z (nl (th ?_))
   rcases cnd h with ⟨j, h⟩ | ⟨j, h⟩
   ·refine WC.condT' z j (sq (rg (wY (ya z) z (nl (th (rt (At.inBlockR (At.thenR (At.loopR ?_)))))))))
    have h := outr1 h c n
    refine At.joinBR (At.inBlockR (At.thenR ?_))
    obtain rfl := some1 h
    have S : Stp [] (Lg.O0 A) w F P := (tr_ (su_ a z) (su_ l z))
    exact At.res (.inl z) z (.tmp z .nil) ⟨z, (se_ S z z)⟩
   ·refine WC.condF' z j (sk (At.inBlock (th (rg (wY (Y.add_i z z) z (wY (ym z) z (nl ?_)))))))
    exact At.round (w64 (C + 1), F) V (Nat.lt_succ_self _) ⟨next1 h c, (tr_ (su_ a z) (su_ l z))⟩ (.cons z (.cons z (.cons z .nil)))
  ·refine WC.condF' z d (WC.exit (At.thenX (At.loopX ?_)))
   exact At.hitB (σ := Own) D ⟨brk1 h c, (su_ a z)⟩ .nil
 ·rintro Z T ⟨rfl, q⟩
  replace h := flowK_go n
  refine (show At _ _ _ [] _ from ?_)
  refine At.inBlockHit (th (sq (rg (wY (ya z) z (nl (th (rt ?_)))))))
  obtain rfl := some1 h
  have U : Stp [] (Lg.O0 A) w Z T := (su_ q z)
  exact At.res (.inl z) z (.tmp z .nil) ⟨z, (se_ U z z)⟩
theorem c_num_SubPhasor {a0 : UInt64} {a1 : UInt64} {a2 : UInt64} {a3 : UInt64} {w : World} {r0 : UInt64} {r1 : UInt64} (h : num_SubPhasor a0 a1 a2 a3 = some (r0, r1)) : Rets Try.prog 91 [vu a0, vu a1, vu a2, vu a3] w (fun v w' => v = tp [vu r0, vu r1] ∧ Ext w w') := by
  unfold num_SubPhasor at h
  obtain ⟨rfl, rfl⟩ := tup2 h
  refine Rets.enter Try.func91 z z ?_
  refine (show WC _ _ _ _ [(0, vu a0), (1, vu a1), (2, vu a2), (3, vu a3)] _ from ?_)
  refine sq (rg (wY (ya (v := vu 0) z) z (wY (ya (v := vu 0) z) z (nl (th ?_)))))
  refine sq (rg ?_)
  refine wY (ym z) z (wY (ym z) z (WL.call (vals := [vu a0, vu a1]) kok97 z z (c_num_phasor) ?_))
  rintro K L ⟨rfl, m⟩
  obtain ⟨G, r, t, d⟩ := adoptE (Lg.O0 (fun _ => False)) (fun k => 1) m
  refine wY (ym z) z (wY (ym z) z (WL.call (vals := [vu a2, vu a3]) kok97 z z (c_num_phasor) ?_))
  rintro M P ⟨rfl, n⟩
  obtain ⟨o, C, D, e⟩ := adoptE G (fun k => 1) n
  refine WL.csub (O := o) z z z ?_
  intro H I Q j a c
  refine WL.call (vals := [.complex .f64 H I]) kok96 z z (c_num_parts a.1 c.1) ?_
  rintro S p ⟨rfl, q⟩
  obtain ⟨J, E, F, l⟩ := adoptE o (fun k => 1) q
  refine wY (yx z z) z (wY (yx z z) z ?_)
  refine wY (ya z) z (wY (ya z) z (nl (th (rt ?_))))
  rw [fSub_res a, fSub_res c]
  have hs : Stp [] (Lg.O0 (fun _ => False)) w J p := (tr_ (su_ d z) (tr_ (su_ e z) (tr_ (su_ j z) (su_ l z))))
  exact At.res (.inl z) z (.tmp z (.tmp z .nil)) ⟨z, se_ hs z z⟩
theorem c_hist_Trim {A : Nat → Prop} {v0_1 : Value} {a0 : api_Side} {w : World} (hs0_1 : Sl Rep.u w A v0_1 a0.Counts) {r0 : api_Side} (h : hist_Trim a0 = some r0) : Rets Try.prog 116 [ag [vi a0.Offset, v0_1]] w (fun v w' => ∃ (aa : Value), v = ag [vi r0.Offset, aa] ∧ Ext w w' ∧ Sl Rep.u w' (fun k => w.heap.size ≤ k) aa r0.Counts) := by
 unfold hist_Trim at h
 refine Rets.enter Try.func116 z z ?_
 have ab : Sl Rep.u w (imm (Lg.O0 A)) v0_1 a0.Counts := (Sl.start hs0_1)
 refine (show WC _ _ _ _ [(0, ag [vi a0.Offset, v0_1])] _ from ?_)
 refine sq (rg ?_)
 have aZ := h
 obtain ⟨aP, aQ, aR, rfl⟩ := ab.shape
 have h := aZ
 refine WL.box (O := (Lg.O0 A)) 11 [vi a0.Offset, (Value.slice aP aQ aR)] z z z ?_
 intro c bz bP E a1
 refine WL.alloc (O := bz) 12 [vi 0, Value.slice none 0 0] ty28 z z ?_
 intro d T bQ r ac
 refine nl (th (sq (WC.draw 4 T fmix (by kernel_rfl) ?_)))
 intro j l
 refine WS.y (yf fo28_1 z) z ?_
 have a2 := a1.st r z
 have t := a2.st l z
 refine WS.y (yl ty26 z z (t.cell 1 _ z)) z ?_
 have a3 := ab.i E z z
 have a4 := a3.i r z z
 have F := a4.i l z z
 refine WS.y (Y.len ty26 z F) z (WS.y (ya z) z (WS.tail ?_))
 obtain ⟨e, al, h⟩ := lt1 h
 refine WL.yE (ya z) (congrArg vi al.symm) z (nl (th (sq ?_)))
 obtain ⟨bA, h, a5⟩ := bnd h
 refine WC.join (σ := Int) (fun x w' => x = bA ∧ j = w') (fun x => [(1, pt c 0), (2, pt d 0), (3, vi x), (4, vi e)]) ?_ ?_
 ·refine WC.block ?_
  obtain ⟨aS, h, a6⟩ := flow1 h
  obtain ⟨aT, h⟩ := loop_some h
  refine WC.joinB 0 (σ := Int) (fun x w' => aS = .go x ∧ j = w') (fun x => [(1, pt c 0), (2, pt d 0), (3, vi x), (4, vi e)]) ?_ ?_
  ·refine WC.loop (σ := Int) (fun x k w' => loopN k (hist_Trim_lp1 a0 e) x = some aS ∧ j = w') (fun x => [(1, pt c 0), (2, pt d 0), (3, vi x), (4, vi e)]) 0 aT (.cons z (.cons z (.cons z (.cons z .nil)))) ⟨h, z⟩ ?_
   rintro m aT _ ⟨h, rfl⟩
   obtain ⟨bB, bY, rfl, h, ad⟩ := rnd1 h
   unfold hist_Trim_lp1 at h
   try dsimp only at h
   refine (show WC _ _ _ _ [(1, pt c 0), (2, pt d 0), (3, vi m), (4, vi e)] _ from ?_)
   refine sq (sq (rg (wY (ym z) z (wY (ym z) z (wY (Y.lss_i z z) z (wY (ym z) z ?_))))))
   obtain ⟨bC, h, a7⟩ := bnd h
   refine WL.cut 7 (σ := Bool) (fun x w' => x = bC ∧ j = w') (fun x => [(1, pt c 0), (2, pt d 0), (3, vi m), (4, vi e), (18, vB x)]) ?_ ?_
   ·rcases cnd h with ⟨J, h⟩ | ⟨J, h⟩
    ·refine WL.ren 11 z (congrArg vB J) (ug z z (wY (yf fo28_1 z) z (ug z z (wY (yl ty26 z z (t.cell 1 _ z)) z (ug z z (wY (ym z) z (ug z z ?_)))))))
     obtain ⟨aU, a8, h⟩ := bnd h
     obtain ⟨bZ, bI, bJ, bR, a9, ba, bb, K, am, bc⟩ := Sl.at2 F a8
     obtain rfl := am
     replace K : CellsAt _ _ _ [vu aU] := K
     have an := CAt.imm K bc
     refine wY (Y.indexAddr ty26 ty25 z a9 z ba bb) z (ug z z (wY (yl ty25 z z an.at_) z (ug z z (wY (Y.eql_u (b := 0) z z) z (wY (Y.pick (b := true) z z) z ?_)))))
     exact nl (At.join (σ := Bool) (decide (aU = 0)) ⟨some1 h, z⟩ (.cons z (.cons z (.cons z (.cons z (.cons z .nil))))))
    ·refine WL.ren 11 z (congrArg vB J) (WL.gS z z z z (WL.gS z z z z (WL.gS z z z z (WL.gS z z z z (WL.gS z z z z (WL.gS z z z z (wY (Y.pick (b := false) z z) z ?_)))))))
     exact nl (At.join (σ := Bool) false ⟨some1 h, z⟩ (.cons z (.cons z (.cons z (.cons z (.cons z .nil))))))
   ·rintro bD _ ⟨rfl, rfl⟩
    replace h := a7
    try dsimp only at h
    refine (show WL _ _ _ _ _ [(1, pt c 0), (2, pt d 0), (3, vi m), (4, vi e), (18, vB bD)] _ from ?_)
    refine nl (th ?_)
    rcases cnd h with ⟨L, h⟩ | ⟨L, h⟩
    ·refine WC.condT' z L (sk (th (WC.block (rg (wY (ym z) z (wY (Y.add_i z z) z ?_))))))
     obtain ⟨ae, X, h⟩ := lt1 h
     refine WL.yE (ya z) (congrArg vi X.symm) z (nl (At.inBlock ?_))
     exact At.round ae bB (Nat.lt_succ_self _) ⟨next1 h ad, z⟩ (.cons z (.cons z (.cons z (.cons z .nil))))
    ·refine WC.condF' z L (WC.exit (At.thenX (At.loopX ?_)))
     exact At.hitB (σ := Int) m ⟨brk1 h ad, z⟩ (.cons z (.cons z (.cons z (.cons z .nil))))
  ·rintro H _ ⟨rfl, rfl⟩
   replace h := flowK_go a6
   try dsimp only at h
   refine (show At _ _ _ [(1, pt c 0), (2, pt d 0), (3, vi H), (4, vi e)] _ from ?_)
   refine At.inBlockHit ?_
   exact At.join (σ := Int) H ⟨some1 h, z⟩ (.cons z (.cons z (.cons z (.cons z .nil))))
 ·rintro a _ ⟨rfl, rfl⟩
  replace h := a5
  try dsimp only at h
  refine (show At _ _ _ [(1, pt c 0), (2, pt d 0), (3, vi a), (4, vi e)] _ from ?_)
  refine th (sq ?_)
  obtain ⟨bE, h, bd⟩ := bnd h
  refine WC.join (σ := Int) (fun x w' => x = bE ∧ j = w') (fun x => [(1, pt c 0), (2, pt d 0), (3, vi a), (4, vi x)]) ?_ ?_
  ·refine WC.block ?_
   obtain ⟨aW, h, bf⟩ := flow1 h
   obtain ⟨aX, h⟩ := loop_some h
   refine WC.joinB 2 (σ := Int) (fun x w' => aW = .go x ∧ j = w') (fun x => [(1, pt c 0), (2, pt d 0), (3, vi a), (4, vi x)]) ?_ ?_
   ·refine WC.loop (σ := Int) (fun x k w' => loopN k (hist_Trim_lp2 a0 a) x = some aW ∧ j = w') (fun x => [(1, pt c 0), (2, pt d 0), (3, vi a), (4, vi x)]) e aX (.cons z (.cons z (.cons z (.cons z .nil)))) ⟨h, z⟩ ?_
    rintro G aX _ ⟨h, rfl⟩
    obtain ⟨bF, b0, rfl, h, af⟩ := rnd1 h
    unfold hist_Trim_lp2 at h
    try dsimp only at h
    refine (show WC _ _ _ _ [(1, pt c 0), (2, pt d 0), (3, vi a), (4, vi G)] _ from ?_)
    refine sq (sq (rg (wY (ym z) z (wY (ym z) z (wY (Y.gtr_i z z) z (wY (ym z) z ?_))))))
    obtain ⟨bG, h, bg⟩ := bnd h
    refine WL.cut 8 (σ := Bool) (fun x w' => x = bG ∧ j = w') (fun x => [(1, pt c 0), (2, pt d 0), (3, vi a), (4, vi G), (32, vB x)]) ?_ ?_
    ·rcases cnd h with ⟨M, h⟩ | ⟨M, h⟩
     ·refine WL.ren 24 z (congrArg vB M) (ug z z (wY (yf fo28_1 z) z (ug z z (wY (yl ty26 z z (t.cell 1 _ z)) z (ug z z (wY (ym z) z (ug z z (wY (Y.sub_i z z) z (ug z z ?_)))))))))
      obtain ⟨aY, bh, h⟩ := bnd h
      obtain ⟨b1, bK, bL, bS, bi, bj, bk, P, ao, bl⟩ := Sl.at2 F bh
      obtain rfl := ao
      replace P : CellsAt _ _ _ [vu aY] := P
      have ap := CAt.imm P bl
      refine wY (Y.indexAddr ty26 ty25 z bi z bj bk) z (ug z z (wY (yl ty25 z z ap.at_) z (ug z z (wY (Y.eql_u (b := 0) z z) z (wY (Y.pick (b := true) z z) z ?_)))))
      exact nl (At.join (σ := Bool) (decide (aY = 0)) ⟨some1 h, z⟩ (.cons z (.cons z (.cons z (.cons z (.cons z .nil))))))
     ·refine WL.ren 24 z (congrArg vB M) (WL.gS z z z z (WL.gS z z z z (WL.gS z z z z (WL.gS z z z z (WL.gS z z z z (WL.gS z z z z (WL.gS z z z z (wY (Y.pick (b := false) z z) z ?_))))))))
      exact nl (At.join (σ := Bool) false ⟨some1 h, z⟩ (.cons z (.cons z (.cons z (.cons z (.cons z .nil))))))
    ·rintro bH _ ⟨rfl, rfl⟩
     replace h := bg
     try dsimp only at h
     refine (show WL _ _ _ _ _ [(1, pt c 0), (2, pt d 0), (3, vi a), (4, vi G), (32, vB bH)] _ from ?_)
     refine nl (th ?_)
     rcases cnd h with ⟨Q, h⟩ | ⟨Q, h⟩
     ·refine WC.condT' z Q (sk (th (WC.block (rg (wY (ym z) z (wY (Y.sub_i z z) z ?_))))))
      obtain ⟨bm, aq, h⟩ := lt1 h
      refine WL.yE (ya z) (congrArg vi aq.symm) z (nl (At.inBlock ?_))
      exact At.round bm bF (Nat.lt_succ_self _) ⟨next1 h af, z⟩ (.cons z (.cons z (.cons z (.cons z .nil))))
     ·refine WC.condF' z Q (WC.exit (At.thenX (At.loopX ?_)))
      exact At.hitB (σ := Int) G ⟨brk1 h af, z⟩ (.cons z (.cons z (.cons z (.cons z .nil))))
   ·rintro ah _ ⟨rfl, rfl⟩
    replace h := flowK_go bf
    try dsimp only at h
    refine (show At _ _ _ [(1, pt c 0), (2, pt d 0), (3, vi a), (4, vi ah)] _ from ?_)
    refine At.inBlockHit ?_
    exact At.join (σ := Int) ah ⟨some1 h, z⟩ (.cons z (.cons z (.cons z (.cons z .nil))))
  ·rintro ai _ ⟨rfl, rfl⟩
   replace h := bd
   try dsimp only at h
   refine (show At _ _ _ [(1, pt c 0), (2, pt d 0), (3, vi a), (4, vi ai)] _ from ?_)
   refine th (sq (sq (rg (wY (ym z) z (wY (ym z) z (wY (Y.eql_i z z) z (nl (th ?_))))))))
   rcases cnd h with ⟨S, h⟩ | ⟨S, h⟩
   ·refine WC.condT' z S (sq (rg (wY (yb (vals := []) (cells := [vi 0, Value.slice none 0 0]) (fe_ z) (by kernel_rfl)) z ?_)))
    have bn := ac.st l z
    refine WL.store (v := ag [vi 0, Value.slice none 0 0]) (cells' := [vi 0, Value.slice none 0 0]) ty28 z z bn z (le_ z) z z ?_
    intro bo ar bp
    refine nl (th (rt (At.thenR ?_)))
    obtain rfl := some1 h
    have bq : Stp [12] (Lg.O0 A) w T bo := (tr_ (su_ E z) (tr_ (su_ r z) (tr_ (su_ l z) (su_ ar z))))
    exact At.res (.inl z) z (.cell z (bp.runAg 0 [vi 0, Value.slice none 0 0] ty28 z z z) .nil) ⟨Value.slice none 0 0, z, (se_ bq z z), (Or.inl ⟨z, z⟩)⟩
   ·refine WC.condF' z S (sk (th (sq (WC.drawH [] [0, 1, 2, 3, 4, 5, 6, 7, 8, 9, 10] T 12 fmix z (by kernel_rfl) ?_))))
    intro bT n
    refine WD.y 0 z (by kernel_rfl) (fun _ _ _ => yf fo28_0 z) z (WD.y 1 z (by kernel_rfl) (fun bM bU aj => have au := t.st n z; have av := au.st aj z; yl ty3 z z (av.cell 0 _ z)) z (WD.y 2 z (by kernel_rfl) (fun _ _ _ => ym z) z (WD.y 3 z (by kernel_rfl) (fun _ _ _ => Y.add_i z z) z (WD.y 4 z (by kernel_rfl) (fun _ _ _ => yf fo28_1 z) z (WD.y 5 z (by kernel_rfl) (fun bO bW ak => have aw := t.st n z; have ax := aw.st ak z; yl ty26 z z (ax.cell 1 _ z)) z (WD.y 6 z (by kernel_rfl) (fun _ _ _ => ym z) z (WD.y 7 z (by kernel_rfl) (fun _ _ _ => ym z) z ?_)))))))
    obtain ⟨bX, ay, h⟩ := bnd h
    have az := F.i n z z
    obtain ⟨br, aA, aC⟩ := Sl.slice (ρ := [(44, (Value.slice aP aQ aR)), (45, vi a), (46, vi ai)]) (x := (.tmp 44)) (lo := (some (.tmp 45))) (hi := (some (.tmp 46))) ty26 ty25 rfl rfl rfl az ay
    refine WD.y 8 z (by kernel_rfl) (fun _ _ _ => Y.sub (.cons z (.cons z (.cons z .nil))) (aA _ _)) z (WD.heavy 9 z (by kernel_rfl) ?_)
    obtain ⟨bs, aD, h⟩ := bnd h
    refine WL.call (vals := [br]) kok76 z z (c_slices_Clone_uint64_uint64 (A := fun _ => True) (Sl.all aC) aD) ?_
    rintro U aE ⟨_, rfl, aF, bt⟩
    obtain ⟨bu, bx, Z, C⟩ := adoptE T (fun k => if ob U = some k then 13 else 1) aF
    have V : OwnSl 13 Rep.u 25 bu aE U bs := RowF.adopt 13 Flat.u bt Z (fun k hk => if_pos hk)
    refine nl (At.dq (su_ C z) ?_)
    have aG := h
    obtain ⟨o, p, q, rfl⟩ := V.shape
    have h := aG
    refine WD.y 10 z (by kernel_rfl) (fun _ _ _ => yb (vals := [(0, vi (w64 (a0.Offset + a))), (1, (Value.slice o p q))]) (cells := [vi (w64 (a0.Offset + a)), (Value.slice o p q)]) (fe_ z) (by kernel_rfl)) z (WD.phase [12] [0, 1, 2, 3, 4, 5, 6, 7, 8, 9, 10, 11] (by kernel_rfl) (by kernel_rfl) (WD.heavy 11 z (by kernel_rfl) ?_))
    have aH := ac.st l z
    have aI := aH.st n z
    have aJ := aI.st C z
    refine WL.store (v := ag [vi (w64 (a0.Offset + a)), (Value.slice o p q)]) (cells' := [vi (w64 (a0.Offset + a)), (Value.slice o p q)]) ty28 z z aJ z (le_ z) z z ?_
    intro aK D aL
    refine nl (At.dq (su_ D z) (WD.done_ (by kernel_rfl) (th (rt ?_))))
    obtain rfl := some1 h
    have aM := V.st D z z z
    obtain ⟨bw, I, aN⟩ := OwnSl.giveF rfl Flat.u aM
    have W : Stp [12, 13] (Lg.O0 A) w bw aK := (tr_ (su_ E z) (tr_ (su_ r z) (tr_ (su_ l z) (tr_ (su_ n z) (tr_ (su_ C z) (tr_ (su_ D z) (su_ I z)))))))
    have aO := aL.st I z
    exact At.res (.inl z) z (.cell z (aO.runAg 0 [vi (w64 (a0.Offset + a)), (Value.slice o p q)] ty28 z z z) .nil) ⟨(Value.slice o p q), z, (se_ W z z), (Sl.outF aN W low0)⟩
theorem c_fold_left {A : Nat → Prop} {v0_1 : Value} {a0 : api_Side} {v1_1 : Value} {a1 : api_Side} {w : World} (hs0_1 : Sl Rep.u w A v0_1 a0.Counts) (hs1_1 : Sl Rep.u w A v1_1 a1.Counts) {r0 : api_Side} {r1 : Bool} (h : fold_left a0 a1 = some (r0, r1)) : Rets Try.prog 111 [ag [vi a0.Offset, v0_1], ag [vi a1.Offset, v1_1]] w (fun v w' => ∃ (aL : Value), v = Value.tuple (List.toArray [ag [vi r0.Offset, aL], vB r1]) ∧ Ext w w' ∧ Sl Rep.u w' (fun k => w.heap.size ≤ k) aL r0.Counts) := by
 unfold fold_left at h
 refine Rets.enter Try.func111 z z ?_
 have ak : Sl Rep.u w (imm (Lg.O0 A)) v0_1 a0.Counts := (Sl.start hs0_1)
 have cj : Sl Rep.u w (imm (Lg.O0 A)) v1_1 a1.Counts := (Sl.start hs1_1)
 refine (show WC _ _ _ _ [(0, ag [vi a0.Offset, v0_1]), (1, ag [vi a1.Offset, v1_1])] _ from ?_)
 refine sq (rg ?_)
 have ck := h
 obtain ⟨X, Z, aa, rfl⟩ := ak.shape
 have h := ck
 refine WL.box (O := (Lg.O0 A)) 11 [vi a0.Offset, (Value.slice X Z aa)] z z z ?_
 intro C c4 dz q aM
 have aN := cj.i q z z
 have cl := h
 obtain ⟨ab, ac, ad, rfl⟩ := aN.shape
 have h := cl
 refine WL.box (O := c4) 12 [vi a1.Offset, (Value.slice ab ac ad)] z z z ?_
 intro D c5 dA m cm
 refine WL.alloc (O := c5) 13 [vi 0, Value.slice none 0 0] ty28 z z ?_
 intro o ay al e aO
 refine wY (ya z) z (nl (th (sq (sq (rg (wY (yf fo28_1 z) z ?_))))))
 have am := cm.st e z
 refine wY (yl ty26 z z (am.cell 1 _ z)) z ?_
 have cn := aN.i m z z
 have an := cn.i e z z
 refine wY (Y.len ty26 z an) z (wY (ym z) z (nl (th ?_)))
 obtain ⟨c6, h, aP⟩ := flow1 h
 refine WC.join (σ := Own) (fun x w' => c6 = .go () ∧ Stp [] ay al x w') (fun x => [(2, pt C 0), (3, pt D 0), (4, pt o 0)]) ?_ ?_
 ·refine WC.block ?_
  obtain ⟨cf, h, aQ⟩ := flow1 h
  obtain ⟨cg, h⟩ := loop_some h
  refine WC.joinB 0 (σ := Own) (fun x w' => cf = .go () ∧ Stp [] ay al x w') (fun x => [(2, pt C 0), (3, pt D 0), (4, pt o 0)]) ?_ ?_
  ·refine WC.loop (σ := (Int × Own)) (fun x k w' => loopN k (fold_left_lp1 a0 a1) x.1 = some cf ∧ Stp [] ay al x.2 w') (fun x => [(2, pt C 0), (3, pt D 0), (4, pt o 0), (12, (Value.slice ab ac ad)), (13, vi (a1.Counts.length : Int)), (14, vi x.1)]) (0, ay) cg (.cons z (.cons z (.cons z (.cons z (.cons z (.cons z .nil)))))) ⟨h, (sr_ _ _ _)⟩ ?_
   rintro ⟨aR, ch⟩ cg dB ⟨h, a⟩
   obtain ⟨c7, dQ, rfl, h, ao⟩ := rnd1 h
   unfold fold_left_lp1 at h
   try dsimp only at h a
   refine (show WC _ _ _ _ [(2, pt C 0), (3, pt D 0), (4, pt o 0), (12, (Value.slice ab ac ad)), (13, vi (a1.Counts.length : Int)), (14, vi aR)] _ from ?_)
   refine sq (rg (wY (Y.lss_i z z) z (nl (th (sq ?_)))))
   rcases cnd h with ⟨ap, h⟩ | ⟨ap, h⟩
   ·refine WC.condT' z ap (sk (th (sq (WC.block (sq (rg (wY (ym z) z ?_)))))))
    obtain ⟨c8, co, h⟩ := bnd h
    have cp := an.i a z z
    obtain ⟨dR, df, dg, dC, cq, cr, cs, aq, a7, ct⟩ := Sl.at2 cp co
    obtain rfl := a7
    replace aq : CellsAt _ _ _ [vu c8] := aq
    have a8 := CAt.imm aq ct
    refine wY (Y.indexAddr ty26 ty25 z cq z cr cs) z (wY (yl ty25 z z a8.at_) z (wY (ya z) z (wY (ya z) z (nl (th (sq (rg (wY (ym z) z ?_))))))))
    have cu := aM.st m z
    have cv := cu.st e z
    have cw := cv.st a z
    refine wY (yL ty28 z z (cw.cells 0 [vi a0.Offset, (Value.slice X Z aa)] z) z) z (wY (yf fo28_0 z) z ?_)
    have cx := am.st a z
    refine wY (yl ty3 z z (cx.cell 0 _ z)) z (wY (ym z) z (wY (Y.add_i z z) z ?_))
    have cy := ak.i q z z
    have cz := cy.i m z z
    have cA := cz.i e z z
    have cC := cA.i a z z
    obtain ⟨dS, cD, h⟩ := bnd h
    refine WL.call (vals := [ag [vi a0.Offset, (Value.slice X Z aa)], vi (w64 (a1.Offset + aR))]) kok62 z z (c_hist_At (A := fun _ => True) (a0 := a0) (Sl.all cC) cD) ?_
    rintro dD dE ⟨rfl, cE⟩
    obtain ⟨ci, c9, da, J⟩ := adoptE ch (fun k => 1) cE
    refine wY (Y.gtr_u z z) z (nl (th ?_))
    rcases cnd h with ⟨ar, h⟩ | ⟨ar, h⟩
    ·refine WC.condT' z ar (sq (rg (wY (yb (vals := []) (cells := [vi 0, Value.slice none 0 0]) (fe_ z) (by kernel_rfl)) z ?_)))
     have cF := aO.st a z
     have cG := cF.st J z
     refine WL.store (v := ag [vi 0, Value.slice none 0 0]) (cells' := [vi 0, Value.slice none 0 0]) ty28 z z cG z (le_ z) z z ?_
     intro cH a9 cI
     refine wY (ya z) z (nl (th (rt (At.inBlockR (At.thenR (At.loopR ?_))))))
     have h := outr1 h ao aQ
     refine At.joinBR (At.inBlockR ?_)
     have h := outs1 h aP
     refine At.joinR (At.thenR ?_)
     obtain ⟨rfl, rfl⟩ := tup2 h
     have cJ : Stp [13] (Lg.O0 A) w ci cH := (tr_ (su_ q z) (tr_ (su_ m z) (tr_ (su_ e z) (tr_ (su_ a z) (tr_ (su_ J z) (su_ a9 z))))))
     exact At.res (.inl z) z (.cell z (cI.runAg 0 [vi 0, Value.slice none 0 0] ty28 z z z) (.tmp z .nil)) ⟨Value.slice none 0 0, z, (se_ cJ z z), (Or.inl ⟨z, z⟩)⟩
    ·refine WC.condF' z ar (sk (At.inBlock (th (rg (wY (Y.add_i z z) z (wY (ym z) z (nl ?_)))))))
     exact At.round (w64 (aR + 1), ci) c7 (Nat.lt_succ_self _) ⟨next1 h ao, (tr_ (su_ a z) (su_ J z))⟩ (.cons z (.cons z (.cons z (.cons z (.cons z (.cons z .nil))))))
   ·refine WC.condF' z ap (WC.exit (At.thenX (At.loopX ?_)))
    exact At.hitB (σ := Own) ch ⟨brk1 h ao, (su_ a z)⟩ (.cons z (.cons z (.cons z .nil)))
  ·rintro db dF ⟨rfl, ba⟩
   replace h := flowK_go aQ
   refine (show At _ _ _ [(2, pt C 0), (3, pt D 0), (4, pt o 0)] _ from ?_)
   refine At.inBlockHit ?_
   exact At.join (σ := Own) db ⟨go2 h, (su_ ba z)⟩ (.cons z (.cons z (.cons z .nil)))
 ·rintro dc dG ⟨rfl, p⟩
  replace h := flowK_go aP
  refine (show At _ _ _ [(2, pt C 0), (3, pt D 0), (4, pt o 0)] _ from ?_)
  refine th (sq (rg (wY (yf fo28_0 z) z ?_)))
  have cK := aM.st m z
  have cL := cK.st e z
  have aS := cL.st p z
  refine wY (yl ty3 z z (aS.cell 0 _ z)) z (wY (yb (vals := [(0, vi a0.Offset)]) (cells := [vi a0.Offset, Value.slice none 0 0]) (fe_ z) (by kernel_rfl)) z (WL.alloc (O := dc) 14 [vi 0, Value.slice none 0 0] ty28 z z ?_))
  intro n K dh j cM
  refine WL.store (v := ag [vi a0.Offset, Value.slice none 0 0]) (cells' := [vi a0.Offset, Value.slice none 0 0]) ty28 z z cM z (le_ z) z z ?_
  intro L l bb
  refine nl (th (sq (sq (rg (wY (yf fo28_1 z) z ?_)))))
  have bc := aS.st j z
  have az := bc.st l z
  refine wY (yl ty26 z z (az.cell 1 _ z)) z ?_
  have bd := ak.i q z z
  have bf := bd.i m z z
  have bg := bf.i e z z
  have bh := bg.i p z z
  have bi := bh.i j z z
  have aA := bi.i l z z
  refine wY (Y.len ty26 z aA) z (wY (ym z) z (nl (th ?_)))
  obtain ⟨cN, h, bj⟩ := bnd h
  refine WC.join (σ := (List UInt64 × Own × Value)) (fun x w' => x.1 = cN ∧ Stp [14, 16, 1001, 1002] K L x.2.1 w' ∧ OwnSl 1004 Rep.u 25 x.2.1 w' x.2.2 x.1 ∧ Blk 14 x.2.1 w' n 28 [vi a0.Offset, x.2.2]) (fun x => [(4, pt o 0), (8, pt n 0)]) ?_ ?_
  ·refine WC.block ?_
   obtain ⟨aT, h, bk⟩ := flow1 h
   obtain ⟨aU, h⟩ := loop_some h
   refine WC.joinB 2 (σ := (List UInt64 × Own × Value)) (fun x w' => aT = .go x.1 ∧ Stp [14, 16, 1001] K L x.2.1 w' ∧ OwnSl 1002 Rep.u 25 x.2.1 w' x.2.2 x.1 ∧ Blk 14 x.2.1 w' n 28 [vi a0.Offset, x.2.2]) (fun x => [(4, pt o 0), (8, pt n 0)]) ?_ ?_
   ·refine WC.loop (σ := (List UInt64 × Int × Own × Value)) (fun x k w' => loopN k (fold_left_lp2 a0 a1) (x.1, x.2.1) = some aT ∧ Stp [14, 16, 1001] K L x.2.2.1 w' ∧ OwnSl 1001 Rep.u 25 x.2.2.1 w' x.2.2.2 x.1 ∧ Blk 14 x.2.2.1 w' n 28 [vi a0.Offset, x.2.2.2]) (fun x => [(2, pt C 0), (3, pt D 0), (4, pt o 0), (8, pt n 0), (33, (Value.slice X Z aa)), (34, vi (a0.Counts.length : Int)), (35, vi x.2.1)]) ([], 0, K, Value.slice none 0 0) aU (.cons z (.cons z (.cons z (.cons z (.cons z (.cons z (.cons z .nil))))))) ⟨h, (sr_ _ _ _), (OwnSl.nil 1001 Rep.u 25), bb⟩ ?_
    rintro ⟨cO, au, aW, cP⟩ aU di ⟨h, c, M, E⟩
    obtain ⟨cQ, dH, rfl, h, aC⟩ := rnd1 h
    unfold fold_left_lp2 at h
    try dsimp only at h c M E
    refine (show WC _ _ _ _ [(2, pt C 0), (3, pt D 0), (4, pt o 0), (8, pt n 0), (33, (Value.slice X Z aa)), (34, vi (a0.Counts.length : Int)), (35, vi au)] _ from ?_)
    refine sq (rg (wY (Y.lss_i z z) z (nl (th (sq ?_)))))
    rcases cnd h with ⟨P, h⟩ | ⟨P, h⟩
    ·refine WC.condT' z P (sk (th (sq (WC.block (sq (rg (wY (ym z) z ?_)))))))
     obtain ⟨F, bl, h⟩ := bnd h
     have bm := aA.i c z z
     obtain ⟨dI, dd, de, dj, bn, bo, bp, Q, aX, bq⟩ := Sl.at2 bm bl
     obtain rfl := aX
     replace Q : CellsAt _ _ _ [vu F] := Q
     have aY := CAt.imm Q bq
     refine wY (Y.indexAddr ty26 ty25 z bn z bo bp) z (wY (yl ty25 z z aY.at_) z (wY (ya z) z (wY (ya z) z (nl (th (WC.drawH [1001] [0, 1, 2, 3, 4, 5, 6, 7, 8, 9, 10, 11, 12] aW 14 fmix z (by kernel_rfl) ?_))))))
     intro dk d
     refine WD.y 0 z (by kernel_rfl) (fun _ _ _ => yf fo28_1 z) z (WD.y 1 z (by kernel_rfl) (fun dl dJ aZ => have br := E.st d z; have bs := br.st aZ z; yl ty26 z z (bs.cell 1 _ z)) z (WD.y 2 z (by kernel_rfl) (fun _ _ _ => ym z) z (WD.y 3 z (by kernel_rfl) (fun dm dK a2 => have bt := am.st p z; have bu := bt.st j z; have bw := bu.st l z; have bx := bw.st c z; have bz := bx.st d z; have bA := bz.st a2 z; yL ty28 z z (bA.cells 0 [vi a1.Offset, (Value.slice ab ac ad)] z) z) z (WD.y 4 z (by kernel_rfl) (fun _ _ _ => yf fo28_0 z) z (WD.y 5 z (by kernel_rfl) (fun dn dL a3 => have bB := az.st c z; have bC := bB.st d z; have bD := bC.st a3 z; yl ty3 z z (bD.cell 0 _ z)) z (WD.y 6 z (by kernel_rfl) (fun _ _ _ => ym z) z (WD.y 7 z (by kernel_rfl) (fun _ _ _ => Y.add_i z z) z (WD.heavy 8 z (by kernel_rfl) ?_))))))))
     have bE := an.i p z z
     have bF := bE.i j z z
     have bG := bF.i l z z
     have bH := bG.i c z z
     have bI := bH.i d z z
     obtain ⟨S, bJ, h⟩ := bnd h
     refine WL.call (vals := [ag [vi a1.Offset, (Value.slice ab ac ad)], vi (w64 (a0.Offset + au))]) kok62 z z (c_hist_At (A := fun _ => True) (a0 := a1) (Sl.all bI) bJ) ?_
     rintro dp dr ⟨rfl, bK⟩
     obtain ⟨cR, c1, c2, r⟩ := adoptE aW (fun k => 1) bK
     refine nl (At.dq (su_ r z) (WD.y 9 z (by kernel_rfl) (fun _ _ _ => Y.sub_u z z) z (WD.heavy 10 z (by kernel_rfl) (WL.buildSlice (O := cR) (R := Rep.u) (vals := [(0, vu (F - S))]) 15 [vu (F - S)] (xs := [(F - S)]) (by decide) ty26 ty25 (by decide) (by decide) (fe_ z) (by kernel_rfl) z ⟨[vu (F - S)], [], z, z, z⟩ z ?_))))
     intro dM dN ds t bL
     refine nl (At.dq (su_ t z) (WD.heavy 11 z (by kernel_rfl) ?_))
     obtain ⟨bM, a4, h⟩ := bnd h
     have bO := M.st d z z z
     have bP := bO.st r z z z
     have bQ := bP.st t z z z
     refine WL.append (by decide) ty26 ty25 z (by decide) z z bQ bL.src a4 z ?_
     intro dO cS dt G aD
     refine nl (At.dq (su_ G z) (WD.y 12 z (by kernel_rfl) (fun _ _ _ => yf fo28_1 z) z (WD.phase [14] [0, 1, 2, 3, 4, 5, 6, 7, 8, 9, 10, 11, 12, 13] (by kernel_rfl) (by kernel_rfl) (WD.heavy 13 z (by kernel_rfl) ?_))))
     have bR := h
     obtain ⟨av, aw, ax, rfl⟩ := aD.shape
     have h := bR
     have bS := E.st d z
     have bT := bS.st r z
     have bU := bT.st t z
     have bW := bU.st G z
     refine WL.store (v := (Value.slice av aw ax)) (cells' := [vi a0.Offset, (Value.slice av aw ax)]) ty26 z z bW z (le_ z) z z ?_
     intro du H bX
     refine nl (At.dq (su_ H z) (WD.done_ (by kernel_rfl) (At.inBlock (th (rg (wY (Y.add_i z z) z (wY (ym z) z (nl ?_))))))))
     have bY := aD.st H z z z
     exact At.round (bM, w64 (au + 1), cS, (Value.slice av aw ax)) cQ (Nat.lt_succ_self _) ⟨next1 h aC, (tr_ (su_ c z) (tr_ (su_ d z) (tr_ (su_ r z) (tr_ (su_ t z) (tr_ (su_ G z) (su_ H z)))))), bY, bX⟩ (.cons z (.cons z (.cons z (.cons z (.cons z (.cons z (.cons z .nil)))))))
    ·refine WC.condF' z P (WC.exit (At.thenX (At.loopX ?_)))
     obtain ⟨cT, ae, bZ⟩ := OwnSl.rlb 1002 rfl M
     have b0 := E.st ae z
     exact At.hitB (σ := (List UInt64 × Own × Value)) (cO, cT, cP) ⟨brk1 h aC, (tr_ (su_ c z) (su_ ae z)), bZ, b0⟩ (.cons z (.cons z .nil))
   ·rintro ⟨cU, dP, cV⟩ dw ⟨rfl, af, aE, aF⟩
    replace h := flowK_go bk
    try dsimp only at h af aE aF
    refine (show At _ _ _ [(4, pt o 0), (8, pt n 0)] _ from ?_)
    refine At.inBlockHit ?_
    obtain ⟨cW, ah, b1⟩ := OwnSl.rlb 1004 rfl aE
    have b2 := aF.st ah z
    exact At.join (σ := (List UInt64 × Own × Value)) (cU, cW, cV) ⟨some1 h, (tr_ (su_ af z) (su_ ah z)), b1, b2⟩ (.cons z (.cons z .nil))
  ·rintro ⟨cX, cY, a5⟩ dx ⟨rfl, I, aG, aH⟩
   replace h := bj
   try dsimp only at h I aG aH
   refine (show At _ _ _ [(4, pt o 0), (8, pt n 0)] _ from ?_)
   refine th (sq (rg (wY (yL ty28 z z (aH.cells 0 [vi a0.Offset, a5] z) z) z ?_)))
   obtain ⟨T, b3, h⟩ := bnd h
   refine WL.call (vals := [ag [vi a0.Offset, a5]]) kok116 z z (c_hist_Trim (A := fun _ => True) (a0 := (api_Side.mk a0.Offset cX)) (aG.src.sl) b3) ?_
   rintro dy b4 ⟨cZ, rfl, b5, c0⟩
   obtain ⟨a6, c3, aK, ai⟩ := adoptE cY (fun k => 1) b5
   have aI : Sl Rep.u b4 (frs a6) cZ T.Counts := Sl.adoptF c0 (fun k hk => ⟨hk, z⟩) aK
   have b6 := h
   obtain ⟨U, V, W, rfl⟩ := aI.shape
   have h := b6
   have b7 := aO.st p z
   have b8 := b7.st j z
   have b9 := b8.st l z
   have ca := b9.st I z
   have cb := ca.st ai z
   refine WL.store (v := ag [vi T.Offset, (Value.slice U V W)]) (cells' := [vi T.Offset, (Value.slice U V W)]) ty28 z z cb z (le_ z) z z ?_
   intro cc aj cd
   refine wY (ya z) z (nl (th (rt ?_)))
   obtain ⟨rfl, rfl⟩ := tup2 h
   have aJ : Stp [13, 14, 16, 1001, 1002] (Lg.O0 A) w a6 cc := (tr_ (su_ q z) (tr_ (su_ m z) (tr_ (su_ e z) (tr_ (su_ p z) (tr_ (su_ j z) (tr_ (su_ l z) (tr_ (su_ I z) (tr_ (su_ ai z) (su_ aj z)))))))))
   have ce := aI.f aj z
   exact At.res (.inl z) z (.cell z (cd.runAg 0 [vi T.Offset, (Value.slice U V W)] ty28 z z z) (.tmp z .nil)) ⟨(Value.slice U V W), z, (se_ aJ z z), (Sl.outF ce aJ low0)⟩
theorem c_fold_Sub {A : Nat → Prop} {v0_3 : Value} {v0_5 : Value} {a0 : api_Hist} {v1_3 : Value} {v1_5 : Value} {a1 : api_Hist} {w : World} (hs0_3 : Sl Rep.u w A v0_3 a0.Pos.Counts) (hs0_5 : Sl Rep.u w A v0_5 a0.Neg.Counts) (hs1_3 : Sl Rep.u w A v1_3 a1.Pos.Counts) (hs1_5 : Sl Rep.u w A v1_5 a1.Neg.Counts) {r0 : api_Hist} {r1 : Int} (h : fold_Sub a0 a1 = some (r0, r1)) : Rets Try.prog 92 [ag [vi a0.Scale, vu a0.Zero, vi a0.Pos.Offset, v0_3, vi a0.Neg.Offset, v0_5], ag [vi a1.Scale, vu a1.Zero, vi a1.Pos.Offset, v1_3, vi a1.Neg.Offset, v1_5]] w (fun v w' => ∃ (aM : Value) (aN : Value), v = Value.tuple (List.toArray [ag [vi r0.Scale, vu r0.Zero, vi r0.Pos.Offset, aM, vi r0.Neg.Offset, aN], vi r1]) ∧ Ext w w' ∧ Sl Rep.u w' (fun k => w.heap.size ≤ k) aM r0.Pos.Counts ∧ Sl Rep.u w' (fun k => w.heap.size ≤ k) aN r0.Neg.Counts) := by
 unfold fold_Sub at h
 refine Rets.enter Try.func92 z z ?_
 have aO : Sl Rep.u w (imm (Lg.O0 A)) v0_3 a0.Pos.Counts := (Sl.start hs0_3)
 have aP : Sl Rep.u w (imm (Lg.O0 A)) v0_5 a0.Neg.Counts := (Sl.start hs0_5)
 have cM : Sl Rep.u w (imm (Lg.O0 A)) v1_3 a1.Pos.Counts := (Sl.start hs1_3)
 have cN : Sl Rep.u w (imm (Lg.O0 A)) v1_5 a1.Neg.Counts := (Sl.start hs1_5)
 refine (show WC _ _ _ _ [(0, ag [vi a0.Scale, vu a0.Zero, vi a0.Pos.Offset, v0_3, vi a0.Neg.Offset, v0_5]), (1, ag [vi a1.Scale, vu a1.Zero, vi a1.Pos.Offset, v1_3, vi a1.Neg.Offset, v1_5])] _ from ?_)
 refine sq (rg ?_)
 have cO := h
 obtain ⟨aQ, aR, aS, rfl⟩ := aO.shape
 have h := cO
 have cP := h
 obtain ⟨aT, aU, aW, rfl⟩ := aP.shape
 have h := cP
 refine WL.box (O := (Lg.O0 A)) 11 [vi a0.Scale, vu a0.Zero, vi a0.Pos.Offset, (Value.slice aQ aR aS), vi a0.Neg.Offset, (Value.slice aT aU aW)] z z z ?_
 intro dR dp dL D cQ
 have aX := cM.i D z z
 have cR := h
 obtain ⟨aY, aZ, a2, rfl⟩ := aX.shape
 have h := cR
 have a3 := cN.i D z z
 have cS := h
 obtain ⟨a4, a5, a6, rfl⟩ := a3.shape
 have h := cS
 refine WL.box (O := dp) 12 [vi a1.Scale, vu a1.Zero, vi a1.Pos.Offset, (Value.slice aY aZ a2), vi a1.Neg.Offset, (Value.slice a4 a5 a6)] z z z ?_
 intro dS dr dM C cT
 refine WL.alloc (O := dr) 13 [vi 0, vu 0, vi 0, Value.slice none 0 0, vi 0, Value.slice none 0 0] ty30 z z ?_
 intro aq ds dN t ap
 refine wY (ya z) z (nl (th (sq (rg ?_))))
 have cU := cQ.st C z
 have cV := cU.st t z
 refine wY (yL ty30 z z (cV.cells 0 [vi a0.Scale, vu a0.Zero, vi a0.Pos.Offset, (Value.slice aQ aR aS), vi a0.Neg.Offset, (Value.slice aT aU aW)] z) z) z ?_
 have cW := cT.st t z
 refine wY (yL ty30 z z (cW.cells 0 [vi a1.Scale, vu a1.Zero, vi a1.Pos.Offset, (Value.slice aY aZ a2), vi a1.Neg.Offset, (Value.slice a4 a5 a6)] z) z) z ?_
 have cX := aO.i D z z
 have cY := cX.i C z z
 have cZ := cY.i t z z
 have c0 := aP.i D z z
 have c1 := c0.i C z z
 have c2 := c1.i t z z
 have c3 := aX.i C z z
 have c4 := c3.i t z z
 have c5 := a3.i C z z
 have c6 := c5.i t z z
 obtain ⟨⟨a, c, dT⟩, c7, h⟩ := bnd h
 refine WL.call (vals := [ag [vi a0.Scale, vu a0.Zero, vi a0.Pos.Offset, (Value.slice aQ aR aS), vi a0.Neg.Offset, (Value.slice aT aU aW)], ag [vi a1.Scale, vu a1.Zero, vi a1.Pos.Offset, (Value.slice aY aZ a2), vi a1.Neg.Offset, (Value.slice a4 a5 a6)]]) kok52 z z (c_fold_Level (A := fun _ => True) (a0 := a0) (a1 := a1) (Sl.all cZ) (Sl.all c2) (Sl.all c4) (Sl.all c6) c7) ?_
 rintro dO U ⟨dt, du, dw, dx, rfl, c8, dy, dz, dA, dB⟩
 obtain ⟨ao, dC, Q, P⟩ := adoptE ds (fun k => 1) c8
 have c9 : Sl Rep.u U (frs ao) dt a.Pos.Counts := Sl.adoptF dy (fun k hk => ⟨hk, z⟩) Q
 have da : Sl Rep.u U (frs ao) du a.Neg.Counts := Sl.adoptF dz (fun k hk => ⟨hk, z⟩) Q
 have db : Sl Rep.u U (frs ao) dw c.Pos.Counts := Sl.adoptF dA (fun k hk => ⟨hk, z⟩) Q
 have dc : Sl Rep.u U (frs ao) dx c.Neg.Counts := Sl.adoptF dB (fun k hk => ⟨hk, z⟩) Q
 refine wY (ym z) z (wY (yx z z) z (wY (yx z z) z (wY (yx z z) z (WL.alloc (O := ao) 14 [vi 0, vu 0, vi 0, Value.slice none 0 0, vi 0, Value.slice none 0 0] ty30 z z ?_))))
 intro ar dD dP p dd
 refine WL.alloc (O := dD) 15 [vi 0, vu 0, vi 0, Value.slice none 0 0, vi 0, Value.slice none 0 0] ty30 z z ?_
 intro au cL dQ j de
 have df := c9.f p z
 have a7 := df.f j z
 have dg := h
 obtain ⟨av, aw, ax, rfl⟩ := a7.shape
 have h := dg
 have bd := da.f p z
 have ay := bd.f j z
 have bf := h
 obtain ⟨V, W, X, rfl⟩ := ay.shape
 have h := bf
 have bg := dd.st j z
 refine WL.store (v := ag [vi a.Scale, vu a.Zero, vi a.Pos.Offset, (Value.slice av aw ax), vi a.Neg.Offset, (Value.slice V W X)]) (cells' := [vi a.Scale, vu a.Zero, vi a.Pos.Offset, (Value.slice av aw ax), vi a.Neg.Offset, (Value.slice V W X)]) ty30 z z bg z (le_ z) z z ?_
 intro dE d bh
 have bi := db.f p z
 have bj := bi.f j z
 have az := bj.f d z
 have bk := h
 obtain ⟨Z, aa, ab, rfl⟩ := az.shape
 have h := bk
 have bl := dc.f p z
 have bm := bl.f j z
 have aA := bm.f d z
 have bn := h
 obtain ⟨ac, ad, ae, rfl⟩ := aA.shape
 have h := bn
 have bo := de.st d z
 refine WL.store (v := ag [vi c.Scale, vu c.Zero, vi c.Pos.Offset, (Value.slice Z aa ab), vi c.Neg.Offset, (Value.slice ac ad ae)]) (cells' := [vi c.Scale, vu c.Zero, vi c.Pos.Offset, (Value.slice Z aa ab), vi c.Neg.Offset, (Value.slice ac ad ae)]) ty30 z z bo z (le_ z) z z ?_
 intro dF e aC
 refine wY (ya z) z (nl (th (sq (sq (rg (wY (ym z) z (wY (Y.neq_i z z) z (nl (th ?_)))))))))
 rcases cnd h with ⟨af, h⟩ | ⟨af, h⟩
 ·refine WC.condT' z af (sq (rg (wY (yb (vals := []) (cells := [vi 0, vu 0, vi 0, Value.slice none 0 0, vi 0, Value.slice none 0 0]) (fe_ z) (by kernel_rfl)) z (wY (ym z) z ?_))))
  have bp := ap.st P z
  have bq := bp.st p z
  have br := bq.st j z
  have bs := br.st d z
  have bt := bs.st e z
  refine WL.store (v := ag [vi 0, vu 0, vi 0, Value.slice none 0 0, vi 0, Value.slice none 0 0]) (cells' := [vi 0, vu 0, vi 0, Value.slice none 0 0, vi 0, Value.slice none 0 0]) ty30 z z bt z (le_ z) z z ?_
  intro bu a8 bw
  refine wY (ya z) z (nl (th (rt (At.thenR ?_))))
  obtain ⟨rfl, rfl⟩ := tup2 h
  have bx : Stp [13, 14, 15] (Lg.O0 A) w cL bu := (tr_ (su_ D z) (tr_ (su_ C z) (tr_ (su_ t z) (tr_ (su_ P z) (tr_ (su_ p z) (tr_ (su_ j z) (tr_ (su_ d z) (tr_ (su_ e z) (su_ a8 z)))))))))
  exact At.res (.inl z) z (.cell z (bw.runAg 0 [vi 0, vu 0, vi 0, Value.slice none 0 0, vi 0, Value.slice none 0 0] ty30 z z z) (.tmp z .nil)) ⟨Value.slice none 0 0, Value.slice none 0 0, z, (se_ bx z z), (Or.inl ⟨z, z⟩), (Or.inl ⟨z, z⟩)⟩
 ·refine WC.condF' z af (sk (th (sq (rg (wY (yf fo30_2 z) z ?_)))))
  have aD := bh.st e z
  refine wY (yL ty28 z z (aD.cells 2 [vi a.Pos.Offset, (Value.slice av aw ax)] z) z) z (wY (yf fo30_2 z) z (wY (yL ty28 z z (aC.cells 2 [vi c.Pos.Offset, (Value.slice Z aa ab)] z) z) z ?_))
  have bz := a7.f d z
  have bA := bz.f e z
  have bB := az.f e z
  obtain ⟨⟨E, M⟩, bC, h⟩ := bnd h
  refine WL.call (vals := [ag [vi a.Pos.Offset, (Value.slice av aw ax)], ag [vi c.Pos.Offset, (Value.slice Z aa ab)]]) kok111 z z (c_fold_left (A := fun _ => True) (a0 := a.Pos) (a1 := c.Pos) (Sl.all bA) (Sl.all bB) bC) ?_
  rintro dG bD ⟨dh, rfl, bE, di⟩
  obtain ⟨a9, dm, aK, q⟩ := adoptE cL (fun k => 1) bE
  have bF : Sl Rep.u bD (frs a9) dh E.Counts := Sl.adoptF di (fun k hk => ⟨hk, z⟩) aK
  refine wY (ym z) z (wY (yx z z) z (wY (yx z z) z (WL.alloc (O := a9) 16 [vi 0, Value.slice none 0 0] ty28 z z ?_)))
  intro ah dj dH l bG
  have aE := bF.f l z
  have bH := h
  obtain ⟨F, G, H, rfl⟩ := aE.shape
  have h := bH
  refine WL.store (v := ag [vi E.Offset, (Value.slice F G H)]) (cells' := [vi E.Offset, (Value.slice F G H)]) ty28 z z bG z (le_ z) z z ?_
  intro dI m bI
  refine wY (ya z) z (nl (th (sq (rg (wY (yf fo30_3 z) z ?_)))))
  have bJ := aD.st q z
  have bK := bJ.st l z
  have aF := bK.st m z
  refine wY (yL ty28 z z (aF.cells 4 [vi a.Neg.Offset, (Value.slice V W X)] z) z) z (wY (yf fo30_3 z) z ?_)
  have bL := aC.st q z
  have bM := bL.st l z
  have aG := bM.st m z
  refine wY (yL ty28 z z (aG.cells 4 [vi c.Neg.Offset, (Value.slice ac ad ae)] z) z) z ?_
  have bO := ay.f d z
  have bP := bO.f e z
  have bQ := bP.f q z
  have bR := bQ.f l z
  have bS := bR.f m z
  have bT := aA.f e z
  have bU := bT.f q z
  have bW := bU.f l z
  have bX := bW.f m z
  obtain ⟨⟨I, S⟩, bY, h⟩ := bnd h
  refine WL.call (vals := [ag [vi a.Neg.Offset, (Value.slice V W X)], ag [vi c.Neg.Offset, (Value.slice ac ad ae)]]) kok111 z z (c_fold_left (A := fun _ => True) (a0 := a.Neg) (a1 := c.Neg) (Sl.all bS) (Sl.all bX) bY) ?_
  rintro dJ bZ ⟨dk, rfl, b0, dl⟩
  obtain ⟨ba, dn, aL, r⟩ := adoptE dj (fun k => 1) b0
  have b1 : Sl Rep.u bZ (frs ba) dk I.Counts := Sl.adoptF dl (fun k hk => ⟨hk, z⟩) aL
  refine wY (ym z) z (wY (yx z z) z (wY (yx z z) z (WL.alloc (O := ba) 17 [vi 0, Value.slice none 0 0] ty28 z z ?_)))
  intro ai bb dK n b2
  have aH := b1.f n z
  have b3 := h
  obtain ⟨J, K, L, rfl⟩ := aH.shape
  have h := b3
  refine WL.store (v := ag [vi I.Offset, (Value.slice J K L)]) (cells' := [vi I.Offset, (Value.slice J K L)]) ty28 z z b2 z (le_ z) z z ?_
  intro aI o b4
  refine wY (ya z) z (nl (th (sq (sq (rg (wY (yf fo30_1 z) z ?_))))))
  have b5 := aG.st r z
  have b6 := b5.st n z
  have aJ := b6.st o z
  refine wY (yl ty25 z z (aJ.cell 1 _ z)) z (wY (yf fo30_1 z) z ?_)
  have b7 := aF.st r z
  have b8 := b7.st n z
  have aj := b8.st o z
  refine wY (yl ty25 z z (aj.cell 1 _ z)) z (wY (Y.gtr_u z z) z (wY (ym z) z ?_))
  refine WL.cut 3 (σ := Unit) (fun _ w' => aI = w') (fun _ => [(4, pt aq 0), (6, pt ar 0), (7, pt au 0), (9, pt ah 0), (11, pt ai 0), (12, vB S), (48, vB ((decide (a.Zero < c.Zero)) || (!M)))]) ?_ ?_
  ·refine WL.part 45 z (fun ak => ?_) (fun ak => ?_)
   ·refine WL.gS z z z z (WL.gS z z z z (wY (Y.pick (b := true) z z) z (WL.ren (v' := vB ((decide (a.Zero < c.Zero)) || (!M))) 48 z (congrArg vB (orT ak)) ?_)))
    exact nl (At.join () z (.cons z (.cons z (.cons z (.cons z (.cons z (.cons z (.cons z .nil))))))))
   ·refine ug z z (wY (ym z) z (ug z z (wY (Y.not z) z (wY (Y.pick (b := false) z z) z (WL.ren (v' := vB ((decide (a.Zero < c.Zero)) || (!M))) 48 z (congrArg vB (orF ak)) ?_)))))
    exact nl (At.join () z (.cons z (.cons z (.cons z (.cons z (.cons z (.cons z (.cons z .nil))))))))
  ·rintro _ _ rfl
   refine (show WL _ _ _ _ _ [(4, pt aq 0), (6, pt ar 0), (7, pt au 0), (9, pt ah 0), (11, pt ai 0), (12, vB S), (48, vB ((decide (a.Zero < c.Zero)) || (!M)))] _ from ?_)
   refine wY (ym z) z ?_
   refine WL.cut 3 (σ := Unit) (fun _ w' => aI = w') (fun _ => [(4, pt aq 0), (6, pt ar 0), (7, pt au 0), (9, pt ah 0), (11, pt ai 0), (52, vB (((decide (a.Zero < c.Zero)) || (!M)) || (!S)))]) ?_ ?_
   ·refine WL.part 49 z (fun al => ?_) (fun al => ?_)
    ·refine WL.gS z z z z (WL.gS z z z z (wY (Y.pick (b := true) z z) z (WL.ren (v' := vB (((decide (a.Zero < c.Zero)) || (!M)) || (!S))) 52 z (congrArg vB (orT al)) ?_)))
     exact nl (At.join () z (.cons z (.cons z (.cons z (.cons z (.cons z (.cons z .nil)))))))
    ·refine ug z z (wY (ym z) z (ug z z (wY (Y.not z) z (wY (Y.pick (b := false) z z) z (WL.ren (v' := vB (((decide (a.Zero < c.Zero)) || (!M)) || (!S))) 52 z (congrArg vB (orF al)) ?_)))))
     exact nl (At.join () z (.cons z (.cons z (.cons z (.cons z (.cons z (.cons z .nil)))))))
   ·rintro _ _ rfl
    refine (show WL _ _ _ _ _ [(4, pt aq 0), (6, pt ar 0), (7, pt au 0), (9, pt ah 0), (11, pt ai 0), (52, vB (((decide (a.Zero < c.Zero)) || (!M)) || (!S)))] _ from ?_)
    refine nl (th ?_)
    rcases cnd h with ⟨am, h⟩ | ⟨am, h⟩
    ·refine WC.condT' z am (sq (rg (wY (yb (vals := []) (cells := [vi 0, vu 0, vi 0, Value.slice none 0 0, vi 0, Value.slice none 0 0]) (fe_ z) (by kernel_rfl)) z ?_)))
     have b9 := ap.st P z
     have ca := b9.st p z
     have cb := ca.st j z
     have cc := cb.st d z
     have cd := cc.st e z
     have ce := cd.st q z
     have cf := ce.st l z
     have cg := cf.st m z
     have ch := cg.st r z
     have ci := ch.st n z
     have cj := ci.st o z
     refine WL.store (v := ag [vi 0, vu 0, vi 0, Value.slice none 0 0, vi 0, Value.slice none 0 0]) (cells' := [vi 0, vu 0, vi 0, Value.slice none 0 0, vi 0, Value.slice none 0 0]) ty30 z z cj z (le_ z) z z ?_
     intro ck bc cl
     refine wY (ya z) z (nl (th (rt (At.thenR ?_))))
     obtain ⟨rfl, rfl⟩ := tup2 h
     have cm : Stp [13, 14, 15, 16, 17] (Lg.O0 A) w bb ck := (tr_ (su_ D z) (tr_ (su_ C z) (tr_ (su_ t z) (tr_ (su_ P z) (tr_ (su_ p z) (tr_ (su_ j z) (tr_ (su_ d z) (tr_ (su_ e z) (tr_ (su_ q z) (tr_ (su_ l z) (tr_ (su_ m z) (tr_ (su_ r z) (tr_ (su_ n z) (tr_ (su_ o z) (su_ bc z)))))))))))))))
     exact At.res (.inl z) z (.cell z (cl.runAg 0 [vi 0, vu 0, vi 0, Value.slice none 0 0, vi 0, Value.slice none 0 0] ty30 z z z) (.tmp z .nil)) ⟨Value.slice none 0 0, Value.slice none 0 0, z, (se_ cm z z), (Or.inl ⟨z, z⟩), (Or.inl ⟨z, z⟩)⟩
    ·refine WC.condF' z am (sk (th (sq (rg (wY (yf fo30_0 z) z (wY (yl ty3 z z (aj.cell 0 _ z)) z (wY (yf fo30_1 z) z (wY (yl ty25 z z (aj.cell 1 _ z)) z (wY (yf fo30_1 z) z ?_)))))))))
     refine wY (yl ty25 z z (aJ.cell 1 _ z)) z (wY (Y.sub_u z z) z ?_)
     have cn := bI.st r z
     have co := cn.st n z
     have cp := co.st o z
     refine wY (yL ty28 z z (cp.cells 0 [vi E.Offset, (Value.slice F G H)] z) z) z (wY (yL ty28 z z (b4.cells 0 [vi I.Offset, (Value.slice J K L)] z) z) z (wY (yb (vals := [(0, vi a.Scale), (1, vu (a.Zero - c.Zero)), (2, ag [vi E.Offset, (Value.slice F G H)]), (3, ag [vi I.Offset, (Value.slice J K L)])]) (cells := [vi a.Scale, vu (a.Zero - c.Zero), vi E.Offset, (Value.slice F G H), vi I.Offset, (Value.slice J K L)]) (fe_ z) (by kernel_rfl)) z ?_))
     have cq := ap.st P z
     have cr := cq.st p z
     have cs := cr.st j z
     have ct := cs.st d z
     have cu := ct.st e z
     have cv := cu.st q z
     have cw := cv.st l z
     have cx := cw.st m z
     have cy := cx.st r z
     have cz := cy.st n z
     have cA := cz.st o z
     refine WL.store (v := ag [vi a.Scale, vu (a.Zero - c.Zero), vi E.Offset, (Value.slice F G H), vi I.Offset, (Value.slice J K L)]) (cells' := [vi a.Scale, vu (a.Zero - c.Zero), vi E.Offset, (Value.slice F G H), vi I.Offset, (Value.slice J K L)]) ty30 z z cA z (le_ z) z z ?_
     intro cC T cD
     refine wY (ya z) z (nl (th (rt ?_)))
     obtain ⟨rfl, rfl⟩ := tup2 h
     have an : Stp [13, 14, 15, 16, 17] (Lg.O0 A) w bb cC := (tr_ (su_ D z) (tr_ (su_ C z) (tr_ (su_ t z) (tr_ (su_ P z) (tr_ (su_ p z) (tr_ (su_ j z) (tr_ (su_ d z) (tr_ (su_ e z) (tr_ (su_ q z) (tr_ (su_ l z) (tr_ (su_ m z) (tr_ (su_ r z) (tr_ (su_ n z) (tr_ (su_ o z) (su_ T z)))))))))))))))
     have cE := aE.f m z
     have cF := cE.f r z
     have cG := cF.f n z
     have cH := cG.f o z
     have cI := cH.f T z
     have cJ := aH.f o z
     have cK := cJ.f T z
     exact At.res (.inl z) z (.cell z (cD.runAg 0 [vi a.Scale, vu (a.Zero - c.Zero), vi E.Offset, (Value.slice F G H), vi I.Offset, (Value.slice J K L)] ty30 z z z) (.tmp z .nil)) ⟨(Value.slice F G H), (Value.slice J K L), z, (se_ an z z), (Sl.outF cI an low0), (Sl.outF cK an low0)⟩
end Go.Lg
