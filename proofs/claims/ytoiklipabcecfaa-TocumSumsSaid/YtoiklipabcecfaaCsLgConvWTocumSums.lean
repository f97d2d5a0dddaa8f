/- The walks of TocumSums and of what it calls, printed by gen.py. -/
import Derived.Test.YtoiklipabcecfaaCsLgConvWTocumSumsx1
set_option linter.unusedVariables false
namespace Go.Lg
open Go Go.Proofs
set_option maxRecDepth 100000
set_option maxHeartbeats 4000000
theorem c_law16_awake {w : World} {r0 : Bool} (h : law16_awake = some r0) : Rets Try.prog 16 [] w (fun v w' => v = vB r0 ∧ Ext w w') := by
 unfold law16_awake at h
 refine Rets.enter Try.func16 z z ?_
 refine (show WC _ _ _ _ [] _ from ?_)
 refine sq (rg (wY (ya z) z (nl (th (sq (rg (wY (yb (vals := [(0, vs [120]), (2, vi 1), (3, vi 2), (6, vi 10), (7, vi 5)]) (cells := [vs [120], Value.slice none 0 0, vi 1, vi 2, vB false, vi 0, vi 10, vi 5, vu 0, vu 0, vi 0, vu 0, vi 0, Value.slice none 0 0, vi 0, Value.slice none 0 0, vi 0]) (fe_ z) (by kernel_rfl)) z (WL.alloc (O := (Lg.O0 (fun _ => False))) 11 [vs [], Value.slice none 0 0, vi 0, vi 0, vB false, vi 0, vi 0, vi 0, vu 0, vu 0, vi 0, vu 0, vi 0, Value.slice none 0 0, vi 0, Value.slice none 0 0, vi 0] ty37 z z ?_))))))))
 intro fV fg fK bm ef
 refine WL.store (v := Value.agg (List.toArray [vs [120], Value.slice none 0 0, vi 1, vi 2, vB false, vi 0, vi 10, vi 5, vu 0, vu 0, vi 0, vu 0, vi 0, Value.slice none 0 0, vi 0, Value.slice none 0 0, vi 0])) (cells' := [vs [120], Value.slice none 0 0, vi 1, vi 2, vB false, vi 0, vi 10, vi 5, vu 0, vu 0, vi 0, vu 0, vi 0, Value.slice none 0 0, vi 0, Value.slice none 0 0, vi 0]) ty37 z z ef z (le_ z) z z ?_
 intro fL bn aR
 refine nl (th (sq (rg (wY (yb (vals := []) (cells := [vB false, vi 0, vi 0, vi 0, vu 0, vu 0, vi 0, vu 0, vi 0, Value.slice none 0 0, vi 0, Value.slice none 0 0]) (fe_ z) (by kernel_rfl)) z (wY (yL ty37 z z (aR.cells 0 [vs [120], Value.slice none 0 0, vi 1, vi 2, vB false, vi 0, vi 10, vi 5, vu 0, vu 0, vi 0, vu 0, vi 0, Value.slice none 0 0, vi 0, Value.slice none 0 0, vi 0] z) z) z ?_)))))
 obtain ⟨⟨n, a, m⟩, eg, h⟩ := bnd h
 refine WL.call (vals := [ag [vB false, vi 0, vi 0, vi 0, vu 0, vu 0, vi 0, vu 0, vi 0, Value.slice none 0 0, vi 0, Value.slice none 0 0], Value.agg (List.toArray [vs [120], Value.slice none 0 0, vi 1, vi 2, vB false, vi 0, vi 10, vi 5, vu 0, vu 0, vi 0, vu 0, vi 0, Value.slice none 0 0, vi 0, Value.slice none 0 0, vi 0]), vi 10]) kok20 z z (c_tocum_Next (A := fun _ => True) (a0 := (api_State.mk false 0 0 0 0 0 (api_Hist.mk 0 0 (api_Side.mk 0 []) (api_Side.mk 0 [])))) (a1 := (api_Point.mk [120] [] 1 2 false 0 10 5 0 0 (api_Hist.mk 0 0 (api_Side.mk 0 []) (api_Side.mk 0 [])) 0)) (Or.inl ⟨z, z⟩) (Or.inl ⟨z, z⟩) (Or.inl ⟨z, z⟩) (Or.inl ⟨z, z⟩) (Or.inl ⟨z, z⟩) eg) ?_
 rintro fN ah ⟨fh, fi, fj, fk, fl, rfl, eh, fm, fn, fo, fp, fq⟩
 obtain ⟨ai, fr, Z, aG⟩ := adoptE fg (fun k => 1) eh
 have ei : Sl Rep.u ah (frs ai) fh n.Hist.Pos.Counts := Sl.adoptF fm (fun k hk => ⟨hk, z⟩) Z
 have ej : Sl Rep.u ah (frs ai) fi n.Hist.Neg.Counts := Sl.adoptF fn (fun k hk => ⟨hk, z⟩) Z
 have ek : Sl rep_api_Pair ah (frs ai) fj a.Attrs := Sl.adoptF fo (fun k hk => ⟨hk, z⟩) Z
 have em : Sl Rep.u ah (frs ai) fk a.Hist.Pos.Counts := Sl.adoptF fp (fun k hk => ⟨hk, z⟩) Z
 have en : Sl Rep.u ah (frs ai) fl a.Hist.Neg.Counts := Sl.adoptF fq (fun k hk => ⟨hk, z⟩) Z
 refine wY (ym z) z (wY (yx z z) z (wY (yx z z) z (wY (yx z z) z (WL.alloc (O := ai) 12 [vB false, vi 0, vi 0, vi 0, vu 0, vu 0, vi 0, vu 0, vi 0, Value.slice none 0 0, vi 0, Value.slice none 0 0] ty32 z z ?_))))
 intro fY fs fO X eo
 refine WL.alloc (O := fs) 13 [vs [], Value.slice none 0 0, vi 0, vi 0, vB false, vi 0, vi 0, vi 0, vu 0, vu 0, vi 0, vu 0, vi 0, Value.slice none 0 0, vi 0, Value.slice none 0 0, vi 0] ty37 z z ?_
 intro af ft fP S ep
 have er := ei.f X z
 have aS := er.f S z
 have es := h
 obtain ⟨aH, aI, aJ, rfl⟩ := aS.shape
 have h := es
 have et := ej.f X z
 have aT := et.f S z
 have eu := h
 obtain ⟨aK, aL, aM, rfl⟩ := aT.shape
 have h := eu
 have ew := eo.st S z
 refine WL.store (v := ag [vB n.Some, vi n.Start, vi n.Time, vi n.Int_, vu n.Re, vu n.Im, vi n.Hist.Scale, vu n.Hist.Zero, vi n.Hist.Pos.Offset, (Value.slice aH aI aJ), vi n.Hist.Neg.Offset, (Value.slice aK aL aM)]) (cells' := [vB n.Some, vi n.Start, vi n.Time, vi n.Int_, vu n.Re, vu n.Im, vi n.Hist.Scale, vu n.Hist.Zero, vi n.Hist.Pos.Offset, (Value.slice aH aI aJ), vi n.Hist.Neg.Offset, (Value.slice aK aL aM)]) ty32 z z ew z (le_ z) z z ?_
 intro fQ T ex
 have ey := ek.f X z
 have ez := ey.f S z
 have eA := ez.f T z
 have eB := h
 obtain ⟨d6, d7, d8, rfl⟩ := eA.shape
 have h := eB
 have eC := em.f X z
 have eD := eC.f S z
 have eE := eD.f T z
 have eF := h
 obtain ⟨d9, ea, eb, rfl⟩ := eE.shape
 have h := eF
 have eG := en.f X z
 have eH := eG.f S z
 have eI := eH.f T z
 have eJ := h
 obtain ⟨ec, ed, ee, rfl⟩ := eI.shape
 have h := eJ
 have eK := ep.st T z
 refine WL.store (v := ag [vs a.Name, (Value.slice d6 d7 d8), vi a.Kind, vi a.Temp, vB a.Mono, vi a.Start, vi a.Time, vi a.Int_, vu a.Re, vu a.Im, vi a.Hist.Scale, vu a.Hist.Zero, vi a.Hist.Pos.Offset, (Value.slice d9 ea eb), vi a.Hist.Neg.Offset, (Value.slice ec ed ee), vi a.Flags]) (cells' := [vs a.Name, (Value.slice d6 d7 d8), vi a.Kind, vi a.Temp, vB a.Mono, vi a.Start, vi a.Time, vi a.Int_, vu a.Re, vu a.Im, vi a.Hist.Scale, vu a.Hist.Zero, vi a.Hist.Pos.Offset, (Value.slice d9 ea eb), vi a.Hist.Neg.Offset, (Value.slice ec ed ee), vi a.Flags]) ty37 z z eK z (le_ z) z z ?_
 intro fR aa aF
 refine wY (ya z) z (nl (th (sq (rg (wY (yf fo37_5 z) z ?_)))))
 have eL := aR.st aG z
 have eM := eL.st X z
 have eN := eM.st S z
 have eO := eN.st T z
 have bo := eO.st aa z
 refine WL.store (v := vi 10) (cells' := [vs [120], Value.slice none 0 0, vi 1, vi 2, vB false, vi 10, vi 10, vi 5, vu 0, vu 0, vi 0, vu 0, vi 0, Value.slice none 0 0, vi 0, Value.slice none 0 0, vi 0]) ty3 z z bo z (le_ z) z z ?_
 intro fu K bp
 refine nl (th (sq (rg (wY (yf fo37_6 z) z (WL.store (v := vi 20) (cells' := [vs [120], Value.slice none 0 0, vi 1, vi 2, vB false, vi 10, vi 20, vi 5, vu 0, vu 0, vi 0, vu 0, vi 0, Value.slice none 0 0, vi 0, Value.slice none 0 0, vi 0]) ty3 z z bp z (le_ z) z z ?_)))))
 intro fv L bq
 refine nl (th (sq (rg (wY (yf fo37_7 z) z (WL.store (v := vi 3) (cells' := [vs [120], Value.slice none 0 0, vi 1, vi 2, vB false, vi 10, vi 20, vi 3, vu 0, vu 0, vi 0, vu 0, vi 0, Value.slice none 0 0, vi 0, Value.slice none 0 0, vi 0]) ty3 z z bq z (le_ z) z z ?_)))))
 intro fw M aN
 refine nl (th (sq (rg ?_)))
 have br := ex.st aa z
 have bs := br.st K z
 have bt := bs.st L z
 have aO := bt.st M z
 refine wY (yL ty32 z z (aO.cells 0 [vB n.Some, vi n.Start, vi n.Time, vi n.Int_, vu n.Re, vu n.Im, vi n.Hist.Scale, vu n.Hist.Zero, vi n.Hist.Pos.Offset, (Value.slice aH aI aJ), vi n.Hist.Neg.Offset, (Value.slice aK aL aM)] z) z) z (wY (yL ty37 z z (aN.cells 0 [vs [120], Value.slice none 0 0, vi 1, vi 2, vB false, vi 10, vi 20, vi 3, vu 0, vu 0, vi 0, vu 0, vi 0, Value.slice none 0 0, vi 0, Value.slice none 0 0, vi 0] z) z) z ?_)
 have bu := aS.f T z
 have bw := bu.f aa z
 have bx := bw.f K z
 have bz := bx.f L z
 have bA := bz.f M z
 have bB := aT.f T z
 have bC := bB.f aa z
 have bD := bC.f K z
 have bE := bD.f L z
 have bF := bE.f M z
 obtain ⟨⟨j, c, e⟩, bG, h⟩ := bnd h
 refine WL.call (vals := [ag [vB n.Some, vi n.Start, vi n.Time, vi n.Int_, vu n.Re, vu n.Im, vi n.Hist.Scale, vu n.Hist.Zero, vi n.Hist.Pos.Offset, (Value.slice aH aI aJ), vi n.Hist.Neg.Offset, (Value.slice aK aL aM)], Value.agg (List.toArray [vs [120], Value.slice none 0 0, vi 1, vi 2, vB false, vi 10, vi 20, vi 3, vu 0, vu 0, vi 0, vu 0, vi 0, Value.slice none 0 0, vi 0, Value.slice none 0 0, vi 0]), vi 10]) kok20 z z (c_tocum_Next (A := fun _ => True) (a0 := n) (a1 := (api_Point.mk [120] [] 1 2 false 10 20 3 0 0 (api_Hist.mk 0 0 (api_Side.mk 0 []) (api_Side.mk 0 [])) 0)) (Sl.all bA) (Sl.all bF) (Or.inl ⟨z, z⟩) (Or.inl ⟨z, z⟩) (Or.inl ⟨z, z⟩) bG) ?_
 rintro fx ab ⟨eP, eQ, eR, eS, eT, rfl, bH, eU, eV, eW, eX, eY⟩
 obtain ⟨ad, fe, U, V⟩ := adoptE ft (fun k => 1) bH
 have bI : Sl Rep.u ab (frs ad) eP j.Hist.Pos.Counts := Sl.adoptF eU (fun k hk => ⟨hk, z⟩) U
 have bJ : Sl Rep.u ab (frs ad) eQ j.Hist.Neg.Counts := Sl.adoptF eV (fun k hk => ⟨hk, z⟩) U
 have bK : Sl rep_api_Pair ab (frs ad) eR c.Attrs := Sl.adoptF eW (fun k hk => ⟨hk, z⟩) U
 have bL : Sl Rep.u ab (frs ad) eS c.Hist.Pos.Counts := Sl.adoptF eX (fun k hk => ⟨hk, z⟩) U
 have bM : Sl Rep.u ab (frs ad) eT c.Hist.Neg.Counts := Sl.adoptF eY (fun k hk => ⟨hk, z⟩) U
 refine wY (ym z) z (wY (yx z z) z (wY (yx z z) z (wY (yx z z) z (WL.alloc (O := ad) 14 [vs [], Value.slice none 0 0, vi 0, vi 0, vB false, vi 0, vi 0, vi 0, vu 0, vu 0, vi 0, vu 0, vi 0, Value.slice none 0 0, vi 0, Value.slice none 0 0, vi 0] ty37 z z ?_))))
 intro I eZ fy t bO
 have aP := bI.f t z
 have bP := h
 obtain ⟨aj, ak, al, rfl⟩ := aP.shape
 have h := bP
 have aQ := bJ.f t z
 have bQ := h
 obtain ⟨am, an, ao, rfl⟩ := aQ.shape
 have h := bQ
 have bR := aO.st V z
 have bS := bR.st t z
 refine WL.store (v := ag [vB j.Some, vi j.Start, vi j.Time, vi j.Int_, vu j.Re, vu j.Im, vi j.Hist.Scale, vu j.Hist.Zero, vi j.Hist.Pos.Offset, (Value.slice aj ak al), vi j.Hist.Neg.Offset, (Value.slice am an ao)]) (cells' := [vB j.Some, vi j.Start, vi j.Time, vi j.Int_, vu j.Re, vu j.Im, vi j.Hist.Scale, vu j.Hist.Zero, vi j.Hist.Pos.Offset, (Value.slice aj ak al), vi j.Hist.Neg.Offset, (Value.slice am an ao)]) ty32 z z bS z (le_ z) z z ?_
 intro fz C bT
 have bU := bK.f t z
 have bW := bU.f C z
 have bX := h
 obtain ⟨aU, aW, aX, rfl⟩ := bW.shape
 have h := bX
 have bY := bL.f t z
 have bZ := bY.f C z
 have b0 := h
 obtain ⟨aY, aZ, a2, rfl⟩ := bZ.shape
 have h := b0
 have b1 := bM.f t z
 have b2 := b1.f C z
 have b3 := h
 obtain ⟨a3, a4, a5, rfl⟩ := b2.shape
 have h := b3
 have b4 := bO.st C z
 refine WL.store (v := ag [vs c.Name, (Value.slice aU aW aX), vi c.Kind, vi c.Temp, vB c.Mono, vi c.Start, vi c.Time, vi c.Int_, vu c.Re, vu c.Im, vi c.Hist.Scale, vu c.Hist.Zero, vi c.Hist.Pos.Offset, (Value.slice aY aZ a2), vi c.Hist.Neg.Offset, (Value.slice a3 a4 a5), vi c.Flags]) (cells' := [vs c.Name, (Value.slice aU aW aX), vi c.Kind, vi c.Temp, vB c.Mono, vi c.Start, vi c.Time, vi c.Int_, vu c.Re, vu c.Im, vi c.Hist.Scale, vu c.Hist.Zero, vi c.Hist.Pos.Offset, (Value.slice aY aZ a2), vi c.Hist.Neg.Offset, (Value.slice a3 a4 a5), vi c.Flags]) ty37 z z b4 z (le_ z) z z ?_
 intro fA J ap
 refine wY (ya z) z (nl (th (sq (rg (wY (yf fo37_5 z) z ?_)))))
 have b5 := aN.st V z
 have b6 := b5.st t z
 have b7 := b6.st C z
 have b8 := b7.st J z
 refine WL.store (v := vi 25) (cells' := [vs [120], Value.slice none 0 0, vi 1, vi 2, vB false, vi 25, vi 20, vi 3, vu 0, vu 0, vi 0, vu 0, vi 0, Value.slice none 0 0, vi 0, Value.slice none 0 0, vi 0]) ty3 z z b8 z (le_ z) z z ?_
 intro fB E b9
 refine nl (th (sq (rg (wY (yf fo37_6 z) z (WL.store (v := vi 30) (cells' := [vs [120], Value.slice none 0 0, vi 1, vi 2, vB false, vi 25, vi 30, vi 3, vu 0, vu 0, vi 0, vu 0, vi 0, Value.slice none 0 0, vi 0, Value.slice none 0 0, vi 0]) ty3 z z b9 z (le_ z) z z ?_)))))
 intro fC F ca
 refine nl (th (sq (rg (wY (yf fo37_7 z) z (WL.store (v := vi 2) (cells' := [vs [120], Value.slice none 0 0, vi 1, vi 2, vB false, vi 25, vi 30, vi 2, vu 0, vu 0, vi 0, vu 0, vi 0, Value.slice none 0 0, vi 0, Value.slice none 0 0, vi 0]) ty3 z z ca z (le_ z) z z ?_)))))
 intro fD G cb
 refine nl (th (sq (rg ?_)))
 have cc := bT.st J z
 have cd := cc.st E z
 have ce := cd.st F z
 have cf := ce.st G z
 refine wY (yL ty32 z z (cf.cells 0 [vB j.Some, vi j.Start, vi j.Time, vi j.Int_, vu j.Re, vu j.Im, vi j.Hist.Scale, vu j.Hist.Zero, vi j.Hist.Pos.Offset, (Value.slice aj ak al), vi j.Hist.Neg.Offset, (Value.slice am an ao)] z) z) z (wY (yL ty37 z z (cb.cells 0 [vs [120], Value.slice none 0 0, vi 1, vi 2, vB false, vi 25, vi 30, vi 2, vu 0, vu 0, vi 0, vu 0, vi 0, Value.slice none 0 0, vi 0, Value.slice none 0 0, vi 0] z) z) z ?_)
 have cg := aP.f C z
 have ch := cg.f J z
 have ci := ch.f E z
 have cj := ci.f F z
 have ck := cj.f G z
 have cl := aQ.f C z
 have cm := cl.f J z
 have cn := cm.f E z
 have co := cn.f F z
 have cp := co.f G z
 obtain ⟨⟨o, d, l⟩, cq, h⟩ := bnd h
 refine WL.call (vals := [ag [vB j.Some, vi j.Start, vi j.Time, vi j.Int_, vu j.Re, vu j.Im, vi j.Hist.Scale, vu j.Hist.Zero, vi j.Hist.Pos.Offset, (Value.slice aj ak al), vi j.Hist.Neg.Offset, (Value.slice am an ao)], Value.agg (List.toArray [vs [120], Value.slice none 0 0, vi 1, vi 2, vB false, vi 25, vi 30, vi 2, vu 0, vu 0, vi 0, vu 0, vi 0, Value.slice none 0 0, vi 0, Value.slice none 0 0, vi 0]), vi 10]) kok20 z z (c_tocum_Next (A := fun _ => True) (a0 := j) (a1 := (api_Point.mk [120] [] 1 2 false 25 30 2 0 0 (api_Hist.mk 0 0 (api_Side.mk 0 []) (api_Side.mk 0 [])) 0)) (Sl.all ck) (Sl.all cp) (Or.inl ⟨z, z⟩) (Or.inl ⟨z, z⟩) (Or.inl ⟨z, z⟩) cq) ?_
 rintro fF ac ⟨e0, e1, e2, e5, e6, rfl, cr, e7, e8, e9, fa, fb⟩
 obtain ⟨ae, ff, W, P⟩ := adoptE eZ (fun k => 1) cr
 have cs : Sl Rep.u ac (frs ae) e0 o.Hist.Pos.Counts := Sl.adoptF e7 (fun k hk => ⟨hk, z⟩) W
 have ct : Sl Rep.u ac (frs ae) e1 o.Hist.Neg.Counts := Sl.adoptF e8 (fun k hk => ⟨hk, z⟩) W
 have cu : Sl rep_api_Pair ac (frs ae) e2 d.Attrs := Sl.adoptF e9 (fun k hk => ⟨hk, z⟩) W
 have cv : Sl Rep.u ac (frs ae) e5 d.Hist.Pos.Counts := Sl.adoptF fa (fun k hk => ⟨hk, z⟩) W
 have cw : Sl Rep.u ac (frs ae) e6 d.Hist.Neg.Counts := Sl.adoptF fb (fun k hk => ⟨hk, z⟩) W
 refine wY (ym z) z (wY (yx z z) z (wY (yx z z) z (wY (yx z z) z (WL.alloc (O := ae) 15 [vB false, vi 0, vi 0, vi 0, vu 0, vu 0, vi 0, vu 0, vi 0, Value.slice none 0 0, vi 0, Value.slice none 0 0] ty32 z z ?_))))
 intro fT fc fG r cx
 refine WL.alloc (O := fc) 16 [vs [], Value.slice none 0 0, vi 0, vi 0, vB false, vi 0, vi 0, vi 0, vu 0, vu 0, vi 0, vu 0, vi 0, Value.slice none 0 0, vi 0, Value.slice none 0 0, vi 0] ty37 z z ?_
 intro p fd fH q cy
 have cz := cs.f r z
 have cA := cz.f q z
 have cC := h
 obtain ⟨a6, a7, a8, rfl⟩ := cA.shape
 have h := cC
 have cD := ct.f r z
 have cE := cD.f q z
 have cF := h
 obtain ⟨a9, ba, bb, rfl⟩ := cE.shape
 have h := cF
 have cG := cx.st q z
 refine WL.store (v := ag [vB o.Some, vi o.Start, vi o.Time, vi o.Int_, vu o.Re, vu o.Im, vi o.Hist.Scale, vu o.Hist.Zero, vi o.Hist.Pos.Offset, (Value.slice a6 a7 a8), vi o.Hist.Neg.Offset, (Value.slice a9 ba bb)]) (cells' := [vB o.Some, vi o.Start, vi o.Time, vi o.Int_, vu o.Re, vu o.Im, vi o.Hist.Scale, vu o.Hist.Zero, vi o.Hist.Pos.Offset, (Value.slice a6 a7 a8), vi o.Hist.Neg.Offset, (Value.slice a9 ba bb)]) ty32 z z cG z (le_ z) z z ?_
 intro fI D fJ
 have cH := cu.f r z
 have cI := cH.f q z
 have cJ := cI.f D z
 have cK := h
 obtain ⟨bc, bd, bf, rfl⟩ := cJ.shape
 have h := cK
 have cL := cv.f r z
 have cM := cL.f q z
 have cN := cM.f D z
 have cO := h
 obtain ⟨bg, bh, bi, rfl⟩ := cN.shape
 have h := cO
 have cP := cw.f r z
 have cQ := cP.f q z
 have cR := cQ.f D z
 have cS := h
 obtain ⟨bj, bk, bl, rfl⟩ := cR.shape
 have h := cS
 have cT := cy.st D z
 refine WL.store (v := ag [vs d.Name, (Value.slice bc bd bf), vi d.Kind, vi d.Temp, vB d.Mono, vi d.Start, vi d.Time, vi d.Int_, vu d.Re, vu d.Im, vi d.Hist.Scale, vu d.Hist.Zero, vi d.Hist.Pos.Offset, (Value.slice bg bh bi), vi d.Hist.Neg.Offset, (Value.slice bj bk bl), vi d.Flags]) (cells' := [vs d.Name, (Value.slice bc bd bf), vi d.Kind, vi d.Temp, vB d.Mono, vi d.Start, vi d.Time, vi d.Int_, vu d.Re, vu d.Im, vi d.Hist.Scale, vu d.Hist.Zero, vi d.Hist.Pos.Offset, (Value.slice bg bh bi), vi d.Hist.Neg.Offset, (Value.slice bj bk bl), vi d.Flags]) ty37 z z cT z (le_ z) z z ?_
 intro H Q aq
 refine wY (ya z) z (nl (th (sq (rg (wY (ym z) z (wY (Y.eql_i z z) z (wY (ym z) z ?_)))))))
 refine WL.cut 3 (σ := Unit) (fun _ w' => H = w') (fun _ => [(3, pt af 0), (5, pt I 0), (8, pt p 0), (9, vi l), (43, vB ((decide (m = 0)) && (decide (e = 0))))]) ?_ ?_
 ·refine WL.part 40 z (fun ar => ?_) (fun ar => ?_)
  ·refine ug z z (wY (ym z) z (ug z z (wY (Y.eql_i z z) z (wY (Y.pick (b := true) z z) z (WL.ren (v' := vB ((decide (m = 0)) && (decide (e = 0)))) 43 z (congrArg vB (andT ar)) ?_)))))
   exact nl (At.join () z (.cons z (.cons z (.cons z (.cons z (.cons z .nil))))))
  ·refine WL.gS z z z z (WL.gS z z z z (wY (Y.pick (b := false) z z) z (WL.ren (v' := vB ((decide (m = 0)) && (decide (e = 0)))) 43 z (congrArg vB (andF ar)) ?_)))
   exact nl (At.join () z (.cons z (.cons z (.cons z (.cons z (.cons z .nil))))))
 ·rintro _ _ rfl
  refine (show WL _ _ _ _ _ [(3, pt af 0), (5, pt I 0), (8, pt p 0), (9, vi l), (43, vB ((decide (m = 0)) && (decide (e = 0))))] _ from ?_)
  refine wY (ym z) z ?_
  refine WL.cut 3 (σ := Unit) (fun _ w' => H = w') (fun _ => [(3, pt af 0), (5, pt I 0), (8, pt p 0), (47, vB (((decide (m = 0)) && (decide (e = 0))) && (decide (l = 0))))]) ?_ ?_
  ·refine WL.part 44 z (fun au => ?_) (fun au => ?_)
   ·refine ug z z (wY (ym z) z (ug z z (wY (Y.eql_i z z) z (wY (Y.pick (b := true) z z) z (WL.ren (v' := vB (((decide (m = 0)) && (decide (e = 0))) && (decide (l = 0)))) 47 z (congrArg vB (andT au)) ?_)))))
    exact nl (At.join () z (.cons z (.cons z (.cons z (.cons z .nil)))))
   ·refine WL.gS z z z z (WL.gS z z z z (wY (Y.pick (b := false) z z) z (WL.ren (v' := vB (((decide (m = 0)) && (decide (e = 0))) && (decide (l = 0)))) 47 z (congrArg vB (andF au)) ?_)))
    exact nl (At.join () z (.cons z (.cons z (.cons z (.cons z .nil)))))
  ·rintro _ _ rfl
   refine (show WL _ _ _ _ _ [(3, pt af 0), (5, pt I 0), (8, pt p 0), (47, vB (((decide (m = 0)) && (decide (e = 0))) && (decide (l = 0))))] _ from ?_)
   refine wY (ym z) z ?_
   refine WL.cut 4 (σ := Unit) (fun _ w' => H = w') (fun _ => [(3, pt af 0), (5, pt I 0), (8, pt p 0), (52, vB ((((decide (m = 0)) && (decide (e = 0))) && (decide (l = 0))) && (decide (a.Flags = 1))))]) ?_ ?_
   ·refine WL.part 48 z (fun av => ?_) (fun av => ?_)
    ·refine ug z z (wY (yf fo37_11 z) z (ug z z ?_))
     have cU := aF.st K z
     have cV := cU.st L z
     have cW := cV.st M z
     have cX := cW.st V z
     have cY := cX.st t z
     have cZ := cY.st C z
     have c0 := cZ.st J z
     have c1 := c0.st E z
     have c2 := c1.st F z
     have c3 := c2.st G z
     have c4 := c3.st P z
     have c5 := c4.st r z
     have c6 := c5.st q z
     have c7 := c6.st D z
     have c8 := c7.st Q z
     refine wY (yl ty3 z z (c8.cell 16 _ z)) z (ug z z (wY (Y.eql_i z z) z (wY (Y.pick (b := true) z z) z (WL.ren (v' := vB ((((decide (m = 0)) && (decide (e = 0))) && (decide (l = 0))) && (decide (a.Flags = 1)))) 52 z (congrArg vB (andT av)) ?_))))
     exact nl (At.join () z (.cons z (.cons z (.cons z (.cons z .nil)))))
    ·refine WL.gS z z z z (WL.gS z z z z (WL.gS z z z z (wY (Y.pick (b := false) z z) z (WL.ren (v' := vB ((((decide (m = 0)) && (decide (e = 0))) && (decide (l = 0))) && (decide (a.Flags = 1)))) 52 z (congrArg vB (andF av)) ?_))))
     exact nl (At.join () z (.cons z (.cons z (.cons z (.cons z .nil)))))
   ·rintro _ _ rfl
    refine (show WL _ _ _ _ _ [(3, pt af 0), (5, pt I 0), (8, pt p 0), (52, vB ((((decide (m = 0)) && (decide (e = 0))) && (decide (l = 0))) && (decide (a.Flags = 1))))] _ from ?_)
    refine wY (ym z) z ?_
    refine WL.cut 4 (σ := Unit) (fun _ w' => H = w') (fun _ => [(3, pt af 0), (5, pt I 0), (8, pt p 0), (57, vB (((((decide (m = 0)) && (decide (e = 0))) && (decide (l = 0))) && (decide (a.Flags = 1))) && (decide (a.Int_ = 5))))]) ?_ ?_
    ·refine WL.part 53 z (fun aw => ?_) (fun aw => ?_)
     ·refine ug z z (wY (yf fo37_7 z) z (ug z z ?_))
      have c9 := aF.st K z
      have da := c9.st L z
      have db := da.st M z
      have dc := db.st V z
      have dd := dc.st t z
      have de := dd.st C z
      have df := de.st J z
      have dg := df.st E z
      have dh := dg.st F z
      have di := dh.st G z
      have dj := di.st P z
      have dk := dj.st r z
      have dl := dk.st q z
      have dm := dl.st D z
      have dn := dm.st Q z
      refine wY (yl ty3 z z (dn.cell 7 _ z)) z (ug z z (wY (Y.eql_i z z) z (wY (Y.pick (b := true) z z) z (WL.ren (v' := vB (((((decide (m = 0)) && (decide (e = 0))) && (decide (l = 0))) && (decide (a.Flags = 1))) && (decide (a.Int_ = 5)))) 57 z (congrArg vB (andT aw)) ?_))))
      exact nl (At.join () z (.cons z (.cons z (.cons z (.cons z .nil)))))
     ·refine WL.gS z z z z (WL.gS z z z z (WL.gS z z z z (wY (Y.pick (b := false) z z) z (WL.ren (v' := vB (((((decide (m = 0)) && (decide (e = 0))) && (decide (l = 0))) && (decide (a.Flags = 1))) && (decide (a.Int_ = 5)))) 57 z (congrArg vB (andF aw)) ?_))))
      exact nl (At.join () z (.cons z (.cons z (.cons z (.cons z .nil)))))
    ·rintro _ _ rfl
     refine (show WL _ _ _ _ _ [(3, pt af 0), (5, pt I 0), (8, pt p 0), (57, vB (((((decide (m = 0)) && (decide (e = 0))) && (decide (l = 0))) && (decide (a.Flags = 1))) && (decide (a.Int_ = 5))))] _ from ?_)
     refine wY (ym z) z ?_
     refine WL.cut 4 (σ := Unit) (fun _ w' => H = w') (fun _ => [(5, pt I 0), (8, pt p 0), (62, vB ((((((decide (m = 0)) && (decide (e = 0))) && (decide (l = 0))) && (decide (a.Flags = 1))) && (decide (a.Int_ = 5))) && (decide (a.Temp = 1))))]) ?_ ?_
     ·refine WL.part 58 z (fun ax => ?_) (fun ax => ?_)
      ·refine ug z z (wY (yf fo37_3 z) z (ug z z ?_))
       have dp := aF.st K z
       have dr := dp.st L z
       have ds := dr.st M z
       have dt := ds.st V z
       have du := dt.st t z
       have dw := du.st C z
       have dx := dw.st J z
       have dy := dx.st E z
       have dz := dy.st F z
       have dA := dz.st G z
       have dB := dA.st P z
       have dC := dB.st r z
       have dD := dC.st q z
       have dE := dD.st D z
       have dF := dE.st Q z
       refine wY (yl ty3 z z (dF.cell 3 _ z)) z (ug z z (wY (Y.eql_i z z) z (wY (Y.pick (b := true) z z) z (WL.ren (v' := vB ((((((decide (m = 0)) && (decide (e = 0))) && (decide (l = 0))) && (decide (a.Flags = 1))) && (decide (a.Int_ = 5))) && (decide (a.Temp = 1)))) 62 z (congrArg vB (andT ax)) ?_))))
       exact nl (At.join () z (.cons z (.cons z (.cons z .nil))))
      ·refine WL.gS z z z z (WL.gS z z z z (WL.gS z z z z (wY (Y.pick (b := false) z z) z (WL.ren (v' := vB ((((((decide (m = 0)) && (decide (e = 0))) && (decide (l = 0))) && (decide (a.Flags = 1))) && (decide (a.Int_ = 5))) && (decide (a.Temp = 1)))) 62 z (congrArg vB (andF ax)) ?_))))
       exact nl (At.join () z (.cons z (.cons z (.cons z .nil))))
     ·rintro _ _ rfl
      refine (show WL _ _ _ _ _ [(5, pt I 0), (8, pt p 0), (62, vB ((((((decide (m = 0)) && (decide (e = 0))) && (decide (l = 0))) && (decide (a.Flags = 1))) && (decide (a.Int_ = 5))) && (decide (a.Temp = 1))))] _ from ?_)
      refine wY (ym z) z ?_
      refine WL.cut 4 (σ := Unit) (fun _ w' => H = w') (fun _ => [(5, pt I 0), (8, pt p 0), (67, vB (((((((decide (m = 0)) && (decide (e = 0))) && (decide (l = 0))) && (decide (a.Flags = 1))) && (decide (a.Int_ = 5))) && (decide (a.Temp = 1))) && (decide (c.Flags = 0))))]) ?_ ?_
      ·refine WL.part 63 z (fun ay => ?_) (fun ay => ?_)
       ·refine ug z z (wY (yf fo37_11 z) z (ug z z ?_))
        have dG := ap.st E z
        have dH := dG.st F z
        have dI := dH.st G z
        have dJ := dI.st P z
        have dK := dJ.st r z
        have dL := dK.st q z
        have dM := dL.st D z
        have dN := dM.st Q z
        refine wY (yl ty3 z z (dN.cell 16 _ z)) z (ug z z (wY (Y.eql_i z z) z (wY (Y.pick (b := true) z z) z (WL.ren (v' := vB (((((((decide (m = 0)) && (decide (e = 0))) && (decide (l = 0))) && (decide (a.Flags = 1))) && (decide (a.Int_ = 5))) && (decide (a.Temp = 1))) && (decide (c.Flags = 0)))) 67 z (congrArg vB (andT ay)) ?_))))
        exact nl (At.join () z (.cons z (.cons z (.cons z .nil))))
       ·refine WL.gS z z z z (WL.gS z z z z (WL.gS z z z z (wY (Y.pick (b := false) z z) z (WL.ren (v' := vB (((((((decide (m = 0)) && (decide (e = 0))) && (decide (l = 0))) && (decide (a.Flags = 1))) && (decide (a.Int_ = 5))) && (decide (a.Temp = 1))) && (decide (c.Flags = 0)))) 67 z (congrArg vB (andF ay)) ?_))))
        exact nl (At.join () z (.cons z (.cons z (.cons z .nil))))
      ·rintro _ _ rfl
       refine (show WL _ _ _ _ _ [(5, pt I 0), (8, pt p 0), (67, vB (((((((decide (m = 0)) && (decide (e = 0))) && (decide (l = 0))) && (decide (a.Flags = 1))) && (decide (a.Int_ = 5))) && (decide (a.Temp = 1))) && (decide (c.Flags = 0))))] _ from ?_)
       refine wY (ym z) z ?_
       refine WL.cut 4 (σ := Unit) (fun _ w' => H = w') (fun _ => [(5, pt I 0), (8, pt p 0), (72, vB ((((((((decide (m = 0)) && (decide (e = 0))) && (decide (l = 0))) && (decide (a.Flags = 1))) && (decide (a.Int_ = 5))) && (decide (a.Temp = 1))) && (decide (c.Flags = 0))) && (decide (c.Int_ = 8))))]) ?_ ?_
       ·refine WL.part 68 z (fun az => ?_) (fun az => ?_)
        ·refine ug z z (wY (yf fo37_7 z) z (ug z z ?_))
         have dO := ap.st E z
         have dP := dO.st F z
         have dQ := dP.st G z
         have dR := dQ.st P z
         have dS := dR.st r z
         have dT := dS.st q z
         have dU := dT.st D z
         have dV := dU.st Q z
         refine wY (yl ty3 z z (dV.cell 7 _ z)) z (ug z z (wY (Y.eql_i z z) z (wY (Y.pick (b := true) z z) z (WL.ren (v' := vB ((((((((decide (m = 0)) && (decide (e = 0))) && (decide (l = 0))) && (decide (a.Flags = 1))) && (decide (a.Int_ = 5))) && (decide (a.Temp = 1))) && (decide (c.Flags = 0))) && (decide (c.Int_ = 8)))) 72 z (congrArg vB (andT az)) ?_))))
         exact nl (At.join () z (.cons z (.cons z (.cons z .nil))))
        ·refine WL.gS z z z z (WL.gS z z z z (WL.gS z z z z (wY (Y.pick (b := false) z z) z (WL.ren (v' := vB ((((((((decide (m = 0)) && (decide (e = 0))) && (decide (l = 0))) && (decide (a.Flags = 1))) && (decide (a.Int_ = 5))) && (decide (a.Temp = 1))) && (decide (c.Flags = 0))) && (decide (c.Int_ = 8)))) 72 z (congrArg vB (andF az)) ?_))))
         exact nl (At.join () z (.cons z (.cons z (.cons z .nil))))
       ·rintro _ _ rfl
        refine (show WL _ _ _ _ _ [(5, pt I 0), (8, pt p 0), (72, vB ((((((((decide (m = 0)) && (decide (e = 0))) && (decide (l = 0))) && (decide (a.Flags = 1))) && (decide (a.Int_ = 5))) && (decide (a.Temp = 1))) && (decide (c.Flags = 0))) && (decide (c.Int_ = 8))))] _ from ?_)
        refine wY (ym z) z ?_
        refine WL.cut 4 (σ := Unit) (fun _ w' => H = w') (fun _ => [(8, pt p 0), (77, vB (((((((((decide (m = 0)) && (decide (e = 0))) && (decide (l = 0))) && (decide (a.Flags = 1))) && (decide (a.Int_ = 5))) && (decide (a.Temp = 1))) && (decide (c.Flags = 0))) && (decide (c.Int_ = 8))) && (decide (c.Start = 0))))]) ?_ ?_
        ·refine WL.part 73 z (fun aA => ?_) (fun aA => ?_)
         ·refine ug z z (wY (yf fo37_5 z) z (ug z z ?_))
          have dW := ap.st E z
          have dX := dW.st F z
          have dY := dX.st G z
          have dZ := dY.st P z
          have d0 := dZ.st r z
          have d1 := d0.st q z
          have d2 := d1.st D z
          have d3 := d2.st Q z
          refine wY (yl ty3 z z (d3.cell 5 _ z)) z (ug z z (wY (Y.eql_i z z) z (wY (Y.pick (b := true) z z) z (WL.ren (v' := vB (((((((((decide (m = 0)) && (decide (e = 0))) && (decide (l = 0))) && (decide (a.Flags = 1))) && (decide (a.Int_ = 5))) && (decide (a.Temp = 1))) && (decide (c.Flags = 0))) && (decide (c.Int_ = 8))) && (decide (c.Start = 0)))) 77 z (congrArg vB (andT aA)) ?_))))
          exact nl (At.join () z (.cons z (.cons z .nil)))
         ·refine WL.gS z z z z (WL.gS z z z z (WL.gS z z z z (wY (Y.pick (b := false) z z) z (WL.ren (v' := vB (((((((((decide (m = 0)) && (decide (e = 0))) && (decide (l = 0))) && (decide (a.Flags = 1))) && (decide (a.Int_ = 5))) && (decide (a.Temp = 1))) && (decide (c.Flags = 0))) && (decide (c.Int_ = 8))) && (decide (c.Start = 0)))) 77 z (congrArg vB (andF aA)) ?_))))
          exact nl (At.join () z (.cons z (.cons z .nil)))
        ·rintro _ _ rfl
         refine (show WL _ _ _ _ _ [(8, pt p 0), (77, vB (((((((((decide (m = 0)) && (decide (e = 0))) && (decide (l = 0))) && (decide (a.Flags = 1))) && (decide (a.Int_ = 5))) && (decide (a.Temp = 1))) && (decide (c.Flags = 0))) && (decide (c.Int_ = 8))) && (decide (c.Start = 0))))] _ from ?_)
         refine wY (ym z) z ?_
         refine WL.cut 4 (σ := Unit) (fun _ w' => H = w') (fun _ => [(8, pt p 0), (82, vB ((((((((((decide (m = 0)) && (decide (e = 0))) && (decide (l = 0))) && (decide (a.Flags = 1))) && (decide (a.Int_ = 5))) && (decide (a.Temp = 1))) && (decide (c.Flags = 0))) && (decide (c.Int_ = 8))) && (decide (c.Start = 0))) && (decide (d.Flags = 8))))]) ?_ ?_
         ·refine WL.part 78 z (fun aC => ?_) (fun aC => ?_)
          ·refine ug z z (wY (yf fo37_11 z) z (ug z z (wY (yl ty3 z z (aq.cell 16 _ z)) z (ug z z (wY (Y.eql_i z z) z (wY (Y.pick (b := true) z z) z (WL.ren (v' := vB ((((((((((decide (m = 0)) && (decide (e = 0))) && (decide (l = 0))) && (decide (a.Flags = 1))) && (decide (a.Int_ = 5))) && (decide (a.Temp = 1))) && (decide (c.Flags = 0))) && (decide (c.Int_ = 8))) && (decide (c.Start = 0))) && (decide (d.Flags = 8)))) 82 z (congrArg vB (andT aC)) ?_)))))))
           exact nl (At.join () z (.cons z (.cons z .nil)))
          ·refine WL.gS z z z z (WL.gS z z z z (WL.gS z z z z (wY (Y.pick (b := false) z z) z (WL.ren (v' := vB ((((((((((decide (m = 0)) && (decide (e = 0))) && (decide (l = 0))) && (decide (a.Flags = 1))) && (decide (a.Int_ = 5))) && (decide (a.Temp = 1))) && (decide (c.Flags = 0))) && (decide (c.Int_ = 8))) && (decide (c.Start = 0))) && (decide (d.Flags = 8)))) 82 z (congrArg vB (andF aC)) ?_))))
           exact nl (At.join () z (.cons z (.cons z .nil)))
         ·rintro _ _ rfl
          refine (show WL _ _ _ _ _ [(8, pt p 0), (82, vB ((((((((((decide (m = 0)) && (decide (e = 0))) && (decide (l = 0))) && (decide (a.Flags = 1))) && (decide (a.Int_ = 5))) && (decide (a.Temp = 1))) && (decide (c.Flags = 0))) && (decide (c.Int_ = 8))) && (decide (c.Start = 0))) && (decide (d.Flags = 8))))] _ from ?_)
          refine wY (ym z) z ?_
          refine WL.cut 4 (σ := Unit) (fun _ w' => H = w') (fun _ => [(8, pt p 0), (87, vB (((((((((((decide (m = 0)) && (decide (e = 0))) && (decide (l = 0))) && (decide (a.Flags = 1))) && (decide (a.Int_ = 5))) && (decide (a.Temp = 1))) && (decide (c.Flags = 0))) && (decide (c.Int_ = 8))) && (decide (c.Start = 0))) && (decide (d.Flags = 8))) && (decide (d.Int_ = 2))))]) ?_ ?_
          ·refine WL.part 83 z (fun aD => ?_) (fun aD => ?_)
           ·refine ug z z (wY (yf fo37_7 z) z (ug z z (wY (yl ty3 z z (aq.cell 7 _ z)) z (ug z z (wY (Y.eql_i z z) z (wY (Y.pick (b := true) z z) z (WL.ren (v' := vB (((((((((((decide (m = 0)) && (decide (e = 0))) && (decide (l = 0))) && (decide (a.Flags = 1))) && (decide (a.Int_ = 5))) && (decide (a.Temp = 1))) && (decide (c.Flags = 0))) && (decide (c.Int_ = 8))) && (decide (c.Start = 0))) && (decide (d.Flags = 8))) && (decide (d.Int_ = 2)))) 87 z (congrArg vB (andT aD)) ?_)))))))
            exact nl (At.join () z (.cons z (.cons z .nil)))
           ·refine WL.gS z z z z (WL.gS z z z z (WL.gS z z z z (wY (Y.pick (b := false) z z) z (WL.ren (v' := vB (((((((((((decide (m = 0)) && (decide (e = 0))) && (decide (l = 0))) && (decide (a.Flags = 1))) && (decide (a.Int_ = 5))) && (decide (a.Temp = 1))) && (decide (c.Flags = 0))) && (decide (c.Int_ = 8))) && (decide (c.Start = 0))) && (decide (d.Flags = 8))) && (decide (d.Int_ = 2)))) 87 z (congrArg vB (andF aD)) ?_))))
            exact nl (At.join () z (.cons z (.cons z .nil)))
          ·rintro _ _ rfl
           refine (show WL _ _ _ _ _ [(8, pt p 0), (87, vB (((((((((((decide (m = 0)) && (decide (e = 0))) && (decide (l = 0))) && (decide (a.Flags = 1))) && (decide (a.Int_ = 5))) && (decide (a.Temp = 1))) && (decide (c.Flags = 0))) && (decide (c.Int_ = 8))) && (decide (c.Start = 0))) && (decide (d.Flags = 8))) && (decide (d.Int_ = 2))))] _ from ?_)
           refine wY (ym z) z ?_
           refine WL.cut 4 (σ := Unit) (fun _ w' => H = w') (fun _ => [(92, vB ((((((((((((decide (m = 0)) && (decide (e = 0))) && (decide (l = 0))) && (decide (a.Flags = 1))) && (decide (a.Int_ = 5))) && (decide (a.Temp = 1))) && (decide (c.Flags = 0))) && (decide (c.Int_ = 8))) && (decide (c.Start = 0))) && (decide (d.Flags = 8))) && (decide (d.Int_ = 2))) && (decide (d.Start = 25))))]) ?_ ?_
           ·refine WL.part 88 z (fun aE => ?_) (fun aE => ?_)
            ·refine ug z z (wY (yf fo37_5 z) z (ug z z (wY (yl ty3 z z (aq.cell 5 _ z)) z (ug z z (wY (Y.eql_i z z) z (wY (Y.pick (b := true) z z) z (WL.ren (v' := vB ((((((((((((decide (m = 0)) && (decide (e = 0))) && (decide (l = 0))) && (decide (a.Flags = 1))) && (decide (a.Int_ = 5))) && (decide (a.Temp = 1))) && (decide (c.Flags = 0))) && (decide (c.Int_ = 8))) && (decide (c.Start = 0))) && (decide (d.Flags = 8))) && (decide (d.Int_ = 2))) && (decide (d.Start = 25)))) 92 z (congrArg vB (andT aE)) ?_)))))))
             exact nl (At.join () z (.cons z .nil))
            ·refine WL.gS z z z z (WL.gS z z z z (WL.gS z z z z (wY (Y.pick (b := false) z z) z (WL.ren (v' := vB ((((((((((((decide (m = 0)) && (decide (e = 0))) && (decide (l = 0))) && (decide (a.Flags = 1))) && (decide (a.Int_ = 5))) && (decide (a.Temp = 1))) && (decide (c.Flags = 0))) && (decide (c.Int_ = 8))) && (decide (c.Start = 0))) && (decide (d.Flags = 8))) && (decide (d.Int_ = 2))) && (decide (d.Start = 25)))) 92 z (congrArg vB (andF aE)) ?_))))
             exact nl (At.join () z (.cons z .nil))
           ·rintro _ _ rfl
            refine (show WL _ _ _ _ _ [(92, vB ((((((((((((decide (m = 0)) && (decide (e = 0))) && (decide (l = 0))) && (decide (a.Flags = 1))) && (decide (a.Int_ = 5))) && (decide (a.Temp = 1))) && (decide (c.Flags = 0))) && (decide (c.Int_ = 8))) && (decide (c.Start = 0))) && (decide (d.Flags = 8))) && (decide (d.Int_ = 2))) && (decide (d.Start = 25))))] _ from ?_)
            obtain ⟨fU, d4, h⟩ := lt1 h
            refine WL.yE (ya z) (congrArg vB d4.symm) z (nl (th (rt ?_)))
            obtain rfl := some1 h
            have d5 : Stp [11, 12, 13, 14, 15, 16] (Lg.O0 (fun _ => False)) w fd H := (tr_ (su_ bm z) (tr_ (su_ bn z) (tr_ (su_ aG z) (tr_ (su_ X z) (tr_ (su_ S z) (tr_ (su_ T z) (tr_ (su_ aa z) (tr_ (su_ K z) (tr_ (su_ L z) (tr_ (su_ M z) (tr_ (su_ V z) (tr_ (su_ t z) (tr_ (su_ C z) (tr_ (su_ J z) (tr_ (su_ E z) (tr_ (su_ F z) (tr_ (su_ G z) (tr_ (su_ P z) (tr_ (su_ r z) (tr_ (su_ q z) (tr_ (su_ D z) (su_ Q z))))))))))))))))))))))
            exact At.res (.inl z) z (.tmp z .nil) ⟨z, (se_ d5 z z)⟩
theorem c_ref08_SameSide {A : Nat → Prop} {v0_1 : Value} {a0 : api_Side} {v1_1 : Value} {a1 : api_Side} {w : World} (hs0_1 : Sl Rep.u w A v0_1 a0.Counts) (hs1_1 : Sl Rep.u w A v1_1 a1.Counts) {r0 : Bool} (h : ref08_SameSide a0 a1 = some r0) : Rets Try.prog 56 [ag [vi a0.Offset, v0_1], ag [vi a1.Offset, v1_1]] w (fun v w' => v = vB r0 ∧ Ext w w') := by
 unfold ref08_SameSide at h
 refine Rets.enter Try.func56 z z ?_
 have l : Sl Rep.u w (imm (Lg.O0 A)) v0_1 a0.Counts := (Sl.start hs0_1)
 have W : Sl Rep.u w (imm (Lg.O0 A)) v1_1 a1.Counts := (Sl.start hs1_1)
 refine (show WC _ _ _ _ [(0, ag [vi a0.Offset, v0_1]), (1, ag [vi a1.Offset, v1_1])] _ from ?_)
 refine sq (rg ?_)
 have X := h
 obtain ⟨aH, aI, aJ, rfl⟩ := l.shape
 have h := X
 refine WL.box (O := (Lg.O0 A)) 11 [vi a0.Offset, (Value.slice aH aI aJ)] z z z ?_
 intro F aK aZ d Z
 have m := W.i d z z
 have aa := h
 obtain ⟨aL, aM, aN, rfl⟩ := m.shape
 have h := aa
 refine WL.box (O := aK) 12 [vi a1.Offset, (Value.slice aL aM aN)] z z z ?_
 intro G H j a n
 refine wY (ya z) z (nl (th (sq (sq (rg (wY (yf fo28_0 z) z ?_))))))
 have o := Z.st a z
 refine wY (yl ty3 z z (o.cell 0 _ z)) z (wY (yf fo28_0 z) z (wY (yl ty3 z z (n.cell 0 _ z)) z (wY (Y.neq_i z z) z (wY (ym z) z ?_))))
 refine WL.cut 8 (σ := Unit) (fun _ w' => j = w') (fun _ => [(2, pt F 0), (3, pt G 0), (19, vB ((!decide (a0.Offset = a1.Offset)) || (!decide ((a0.Counts.length : Int) = (a1.Counts.length : Int)))))]) ?_ ?_
 ·refine WL.part 11 z (fun p => ?_) (fun p => ?_)
  ·refine WL.gS z z z z (WL.gS z z z z (WL.gS z z z z (WL.gS z z z z (WL.gS z z z z (WL.gS z z z z (WL.gS z z z z (wY (Y.pick (b := true) z z) z (WL.ren (v' := vB ((!decide (a0.Offset = a1.Offset)) || (!decide ((a0.Counts.length : Int) = (a1.Counts.length : Int))))) 19 z (congrArg vB (orT p)) ?_))))))))
   exact nl (At.join () z (.cons z (.cons z (.cons z .nil))))
  ·refine ug z z (wY (yf fo28_1 z) z (ug z z (wY (yl ty26 z z (o.cell 1 _ z)) z (ug z z ?_))))
   have ab := l.i d z z
   have ac := ab.i a z z
   refine wY (Y.len ty26 z ac) z (ug z z (wY (yf fo28_1 z) z (ug z z (wY (yl ty26 z z (n.cell 1 _ z)) z (ug z z ?_)))))
   have ad := m.i a z z
   refine wY (Y.len ty26 z ad) z (ug z z (wY (Y.neq_i z z) z (wY (Y.pick (b := false) z z) z (WL.ren (v' := vB ((!decide (a0.Offset = a1.Offset)) || (!decide ((a0.Counts.length : Int) = (a1.Counts.length : Int))))) 19 z (congrArg vB (orF p)) ?_))))
   exact nl (At.join () z (.cons z (.cons z (.cons z .nil))))
 ·rintro _ _ rfl
  refine (show WL _ _ _ _ _ [(2, pt F 0), (3, pt G 0), (19, vB ((!decide (a0.Offset = a1.Offset)) || (!decide ((a0.Counts.length : Int) = (a1.Counts.length : Int)))))] _ from ?_)
  refine nl (th ?_)
  rcases cnd h with ⟨q, h⟩ | ⟨q, h⟩
  ·refine WC.condT' z q (sq (rg (wY (ya z) z (nl (th (rt (At.thenR ?_)))))))
   obtain rfl := some1 h
   have ae : Stp [] (Lg.O0 A) w H j := (tr_ (su_ d z) (su_ a z))
   exact At.res (.inl z) z (.tmp z .nil) ⟨z, (se_ ae z z)⟩
  ·refine WC.condF' z q (sk (th (sq (sq (rg (wY (ya z) z (nl (th (WC.block ?_)))))))))
   obtain ⟨U, h, J⟩ := flow1 h
   obtain ⟨V, h⟩ := loop_some h
   refine WC.joinB 0 (σ := Own) (fun x w' => U = .go () ∧ Stp [] H j x w') (fun x => []) ?_ ?_
   ·refine WC.loop (σ := (Int × Own)) (fun x k w' => loopN k (ref08_SameSide_lp1 a0 a1) x.1 = some U ∧ Stp [] H j x.2 w') (fun x => [(2, pt F 0), (3, pt G 0), (5, vi x.1)]) (0, H) V (.cons z (.cons z (.cons z .nil))) ⟨h, (sr_ _ _ _)⟩ ?_
    rintro ⟨aO, I⟩ V a2 ⟨h, c⟩
    obtain ⟨aP, a5, rfl, h, r⟩ := rnd1 h
    unfold ref08_SameSide_lp1 at h
    try dsimp only at h c
    refine (show WC _ _ _ _ [(2, pt F 0), (3, pt G 0), (5, vi aO)] _ from ?_)
    refine sq (sq (rg (wY (ym z) z (wY (yf fo28_1 z) z ?_))))
    have K := o.st c z
    refine wY (yl ty26 z z (K.cell 1 _ z)) z ?_
    have af := l.i d z z
    have ah := af.i a z z
    have L := ah.i c z z
    refine wY (Y.len ty26 z L) z (wY (Y.lss_i z z) z (nl (th ?_)))
    rcases cnd h with ⟨t, h⟩ | ⟨t, h⟩
    ·refine WC.condT' z t (sk (th (sq (WC.block (sq (WC.draw 10 I fmix (by kernel_rfl) ?_))))))
     intro ai e
     refine WS.y (yf fo28_1 z) z ?_
     have aj := K.st e z
     refine WS.y (yl ty26 z z (aj.cell 1 _ z)) z (WS.y (ym z) z ?_)
     obtain ⟨aQ, ak, h⟩ := bnd h
     have al := L.i e z z
     obtain ⟨a6, aU, aW, a3, am, an, ao, C, M, ap⟩ := Sl.at2 al ak
     obtain rfl := M
     replace C : CellsAt _ _ _ [vu aQ] := C
     have P := CAt.imm C ap
     refine WS.y (Y.indexAddr ty26 ty25 z am z an ao) z (WS.y (yl ty25 z z P.at_) z (WS.y (yf fo28_1 z) z ?_))
     have aq := n.st c z
     have ar := aq.st e z
     refine WS.y (yl ty26 z z (ar.cell 1 _ z)) z (WS.y (ym z) z ?_)
     obtain ⟨aR, au, h⟩ := bnd h
     have av := m.i a z z
     have aw := av.i c z z
     have ax := aw.i e z z
     obtain ⟨a7, aX, aY, a4, ay, az, aA, D, Q, aC⟩ := Sl.at2 ax au
     obtain rfl := Q
     replace D : CellsAt _ _ _ [vu aR] := D
     have S := CAt.imm D aC
     refine WS.y (Y.indexAddr ty26 ty25 z ay z az aA) z (WS.y (yl ty25 z z S.at_) z (WS.tail (wY (Y.neq_u z z) z (nl (th ?_)))))
     rcases cnd h with ⟨E, h⟩ | ⟨E, h⟩
     ·refine WC.condT' z E (sq (rg (wY (ya z) z (nl (th (rt (At.inBlockR (At.thenR (At.loopR ?_)))))))))
      have h := outr1 h r J
      refine At.joinBR (At.inBlockR (At.thenR ?_))
      obtain rfl := some1 h
      have aD : Stp [] (Lg.O0 A) w I ai := (tr_ (su_ d z) (tr_ (su_ a z) (tr_ (su_ c z) (su_ e z))))
      exact At.res (.inl z) z (.tmp z .nil) ⟨z, (se_ aD z z)⟩
     ·refine WC.condF' z E (sk (At.inBlock (th (rg (wY (ym z) z (wY (Y.add_i z z) z ?_))))))
      obtain ⟨aS, aE, h⟩ := lt1 h
      refine WL.yE (ya z) (congrArg vi aE.symm) z (nl ?_)
      exact At.round (aS, I) aP (Nat.lt_succ_self _) ⟨next1 h r, (tr_ (su_ c z) (su_ e z))⟩ (.cons z (.cons z (.cons z .nil)))
    ·refine WC.condF' z t (WC.exit (At.thenX (At.loopX ?_)))
     exact At.hitB (σ := Own) I ⟨brk1 h r, (su_ c z)⟩ .nil
   ·rintro aT aF ⟨rfl, T⟩
    replace h := flowK_go J
    refine (show At _ _ _ [] _ from ?_)
    refine At.inBlockHit (th (sq (rg (wY (ya z) z (nl (th (rt ?_)))))))
    obtain rfl := some1 h
    have aG : Stp [] (Lg.O0 A) w aT aF := (tr_ (su_ d z) (tr_ (su_ a z) (su_ T z)))
    exact At.res (.inl z) z (.tmp z .nil) ⟨z, (se_ aG z z)⟩
theorem c_ref08_Same {A : Nat → Prop} {v0_3 : Value} {v0_5 : Value} {a0 : api_Hist} {v1_3 : Value} {v1_5 : Value} {a1 : api_Hist} {w : World} (hs0_3 : Sl Rep.u w A v0_3 a0.Pos.Counts) (hs0_5 : Sl Rep.u w A v0_5 a0.Neg.Counts) (hs1_3 : Sl Rep.u w A v1_3 a1.Pos.Counts) (hs1_5 : Sl Rep.u w A v1_5 a1.Neg.Counts) {r0 : Bool} (h : ref08_Same a0 a1 = some r0) : Rets Try.prog 26 [ag [vi a0.Scale, vu a0.Zero, vi a0.Pos.Offset, v0_3, vi a0.Neg.Offset, v0_5], ag [vi a1.Scale, vu a1.Zero, vi a1.Pos.Offset, v1_3, vi a1.Neg.Offset, v1_5]] w (fun v w' => v = vB r0 ∧ Ext w w') := by
 unfold ref08_Same at h
 refine Rets.enter Try.func26 z z ?_
 have r : Sl Rep.u w (imm (Lg.O0 A)) v0_3 a0.Pos.Counts := (Sl.start hs0_3)
 have t : Sl Rep.u w (imm (Lg.O0 A)) v0_5 a0.Neg.Counts := (Sl.start hs0_5)
 have Z : Sl Rep.u w (imm (Lg.O0 A)) v1_3 a1.Pos.Counts := (Sl.start hs1_3)
 have aa : Sl Rep.u w (imm (Lg.O0 A)) v1_5 a1.Neg.Counts := (Sl.start hs1_5)
 refine (show WC _ _ _ _ [(0, ag [vi a0.Scale, vu a0.Zero, vi a0.Pos.Offset, v0_3, vi a0.Neg.Offset, v0_5]), (1, ag [vi a1.Scale, vu a1.Zero, vi a1.Pos.Offset, v1_3, vi a1.Neg.Offset, v1_5])] _ from ?_)
 refine sq (rg ?_)
 have ab := h
 obtain ⟨C, D, E, rfl⟩ := r.shape
 have h := ab
 have ac := h
 obtain ⟨F, G, H, rfl⟩ := t.shape
 have h := ac
 refine WL.box (O := (Lg.O0 A)) 11 [vi a0.Scale, vu a0.Zero, vi a0.Pos.Offset, (Value.slice C D E), vi a0.Neg.Offset, (Value.slice F G H)] z z z ?_
 intro o aD aQ d ad
 have I := Z.i d z z
 have ae := h
 obtain ⟨J, K, L, rfl⟩ := I.shape
 have h := ae
 have M := aa.i d z z
 have af := h
 obtain ⟨P, Q, S, rfl⟩ := M.shape
 have h := af
 refine WL.box (O := aD) 12 [vi a1.Scale, vu a1.Zero, vi a1.Pos.Offset, (Value.slice J K L), vi a1.Neg.Offset, (Value.slice P Q S)] z z z ?_
 intro p T U a e
 refine wY (ya z) z (nl (th (sq (rg (wY (yf fo30_0 z) z ?_)))))
 have j := ad.st a z
 refine wY (yl ty3 z z (j.cell 0 _ z)) z (wY (yf fo30_0 z) z (wY (yl ty3 z z (e.cell 0 _ z)) z (wY (Y.eql_i z z) z (wY (ym z) z ?_))))
 refine WL.cut 6 (σ := Unit) (fun _ w' => U = w') (fun _ => [(2, pt o 0), (3, pt p 0), (16, vB ((decide (a0.Scale = a1.Scale)) && (decide (a0.Zero = a1.Zero))))]) ?_ ?_
 ·refine WL.part 10 z (fun l => ?_) (fun l => ?_)
  ·refine ug z z (wY (yf fo30_1 z) z (ug z z (wY (yl ty25 z z (j.cell 1 _ z)) z (ug z z (wY (yf fo30_1 z) z (ug z z (wY (yl ty25 z z (e.cell 1 _ z)) z (ug z z (wY (Y.eql_u z z) z ?_)))))))))
   refine wY (Y.pick (b := true) z z) z (WL.ren (v' := vB ((decide (a0.Scale = a1.Scale)) && (decide (a0.Zero = a1.Zero)))) 16 z (congrArg vB (andT l)) ?_)
   exact nl (At.join () z (.cons z (.cons z (.cons z .nil))))
  ·refine WL.gS z z z z (WL.gS z z z z (WL.gS z z z z (WL.gS z z z z (WL.gS z z z z (wY (Y.pick (b := false) z z) z (WL.ren (v' := vB ((decide (a0.Scale = a1.Scale)) && (decide (a0.Zero = a1.Zero)))) 16 z (congrArg vB (andF l)) ?_))))))
   exact nl (At.join () z (.cons z (.cons z (.cons z .nil))))
 ·rintro _ _ rfl
  refine (show WL _ _ _ _ _ [(2, pt o 0), (3, pt p 0), (16, vB ((decide (a0.Scale = a1.Scale)) && (decide (a0.Zero = a1.Zero))))] _ from ?_)
  refine wY (ym z) z ?_
  obtain ⟨aE, h, ah⟩ := bnd h
  refine WL.cut 6 (σ := (Bool × Own)) (fun x w' => x.1 = aE ∧ Stp [] T U x.2 w') (fun x => [(2, pt o 0), (3, pt p 0), (23, vB x.1)]) ?_ ?_
  ·rcases cnd h with ⟨m, h⟩ | ⟨m, h⟩
   ·refine WL.ren 17 z (congrArg vB m) (ug z z (wY (yf fo30_2 z) z (ug z z (wY (yL ty28 z z (j.cells 2 [vi a0.Pos.Offset, (Value.slice C D E)] z) z) z (ug z z (wY (yf fo30_2 z) z (ug z z (wY (yL ty28 z z (e.cells 2 [vi a1.Pos.Offset, (Value.slice J K L)] z) z) z (ug z z ?_)))))))))
    have ai := r.i d z z
    have aj := ai.i a z z
    have ak := I.i a z z
    obtain ⟨aF, al, h⟩ := bnd h
    refine WL.call (vals := [ag [vi a0.Pos.Offset, (Value.slice C D E)], ag [vi a1.Pos.Offset, (Value.slice J K L)]]) kok56 z z (c_ref08_SameSide (A := fun _ => True) (a0 := a0.Pos) (a1 := a1.Pos) (Sl.all aj) (Sl.all ak) al) ?_
    rintro aR aS ⟨rfl, am⟩
    obtain ⟨aG, aH, aI, W⟩ := adoptE T (fun k => 1) am
    refine wY (Y.pick (b := true) z z) z ?_
    exact nl (At.join (σ := (Bool × Own)) (aF, aG) ⟨some1 h, (su_ W z)⟩ (.cons z (.cons z (.cons z .nil))))
   ·refine WL.ren 17 z (congrArg vB m) (WL.gS z z z z (WL.gS z z z z (WL.gS z z z z (WL.gS z z z z (WL.gS z z z z (wY (Y.pick (b := false) z z) z ?_))))))
    exact nl (At.join (σ := (Bool × Own)) (false, T) ⟨some1 h, (sr_ _ _ _)⟩ (.cons z (.cons z (.cons z .nil))))
  ·rintro ⟨aJ, V⟩ an ⟨rfl, c⟩
   replace h := ah
   try dsimp only at h c
   refine (show WL _ _ _ _ _ [(2, pt o 0), (3, pt p 0), (23, vB aJ)] _ from ?_)
   refine wY (ym z) z ?_
   obtain ⟨aK, h, ao⟩ := bnd h
   refine WL.cut 6 (σ := (Bool × Own)) (fun x w' => x.1 = aK ∧ Stp [] V an x.2 w') (fun x => [(30, vB x.1)]) ?_ ?_
   ·rcases cnd h with ⟨n, h⟩ | ⟨n, h⟩
    ·refine WL.ren 24 z (congrArg vB n) (ug z z (wY (yf fo30_3 z) z (ug z z ?_)))
     have ap := j.st c z
     refine wY (yL ty28 z z (ap.cells 4 [vi a0.Neg.Offset, (Value.slice F G H)] z) z) z (ug z z (wY (yf fo30_3 z) z (ug z z ?_)))
     have aq := e.st c z
     refine wY (yL ty28 z z (aq.cells 4 [vi a1.Neg.Offset, (Value.slice P Q S)] z) z) z (ug z z ?_)
     have ar := t.i d z z
     have au := ar.i a z z
     have av := au.i c z z
     have aw := M.i a z z
     have ax := aw.i c z z
     obtain ⟨aL, ay, h⟩ := bnd h
     refine WL.call (vals := [ag [vi a0.Neg.Offset, (Value.slice F G H)], ag [vi a1.Neg.Offset, (Value.slice P Q S)]]) kok56 z z (c_ref08_SameSide (A := fun _ => True) (a0 := a0.Neg) (a1 := a1.Neg) (Sl.all av) (Sl.all ax) ay) ?_
     rintro aT aU ⟨rfl, az⟩
     obtain ⟨aM, aN, aO, X⟩ := adoptE V (fun k => 1) az
     refine wY (Y.pick (b := true) z z) z ?_
     exact nl (At.join (σ := (Bool × Own)) (aL, aM) ⟨some1 h, (su_ X z)⟩ (.cons z .nil))
    ·refine WL.ren 24 z (congrArg vB n) (WL.gS z z z z (WL.gS z z z z (WL.gS z z z z (WL.gS z z z z (WL.gS z z z z (wY (Y.pick (b := false) z z) z ?_))))))
     exact nl (At.join (σ := (Bool × Own)) (false, V) ⟨some1 h, (sr_ _ _ _)⟩ (.cons z .nil))
   ·rintro ⟨x64, aP⟩ aA ⟨rfl, q⟩
    replace h := ao
    try dsimp only at h q
    refine (show WL _ _ _ _ _ [(30, vB x64)] _ from ?_)
    refine wY (ya z) z (nl (th (rt ?_)))
    obtain rfl := some1 h
    have aC : Stp [] (Lg.O0 A) w aP aA := (tr_ (su_ d z) (tr_ (su_ a z) (tr_ (su_ c z) (su_ q z))))
    exact At.res (.inl z) z (.tmp z .nil) ⟨z, (se_ aC z z)⟩
theorem c_ref08_Light {A : Nat → Prop} {v0_3 : Value} {v0_5 : Value} {a0 : api_Hist} {w : World} (hs0_3 : Sl Rep.u w A v0_3 a0.Pos.Counts) (hs0_5 : Sl Rep.u w A v0_5 a0.Neg.Counts) {r0 : Bool} (h : ref08_Light a0 = some r0) : Rets Try.prog 18 [ag [vi a0.Scale, vu a0.Zero, vi a0.Pos.Offset, v0_3, vi a0.Neg.Offset, v0_5]] w (fun v w' => v = vB r0 ∧ Ext w w') := by
 unfold ref08_Light at h
 refine Rets.enter Try.func18 z z ?_
 have d : Sl Rep.u w (imm (Lg.O0 A)) v0_3 a0.Pos.Counts := (Sl.start hs0_3)
 have e : Sl Rep.u w (imm (Lg.O0 A)) v0_5 a0.Neg.Counts := (Sl.start hs0_5)
 refine (show WC _ _ _ _ [(0, ag [vi a0.Scale, vu a0.Zero, vi a0.Pos.Offset, v0_3, vi a0.Neg.Offset, v0_5])] _ from ?_)
 refine sq (rg ?_)
 have m := h
 obtain ⟨t, C, D, rfl⟩ := d.shape
 have h := m
 have n := h
 obtain ⟨E, F, G, rfl⟩ := e.shape
 have h := n
 refine WL.box (O := (Lg.O0 A)) 11 [vi a0.Scale, vu a0.Zero, vi a0.Pos.Offset, (Value.slice t C D), vi a0.Neg.Offset, (Value.slice E F G)] z z z ?_
 intro I H j a l
 refine wY (ya z) z (nl (th (sq (rg (wY (yf fo30_2 z) z (wY (yf fo28_1 z) z (wY (yl ty26 z z (l.cell 3 _ z)) z ?_)))))))
 have o := d.i a z z
 refine wY (Y.len ty26 z o) z (wY (Y.leq_i z z) z (wY (ym z) z ?_))
 refine WL.cut 6 (σ := Unit) (fun _ w' => j = w') (fun _ => [(14, vB ((decide ((a0.Pos.Counts.length : Int) ≤ 300)) && (decide ((a0.Neg.Counts.length : Int) ≤ 300))))]) ?_ ?_
 ·refine WL.part 8 z (fun c => ?_) (fun c => ?_)
  ·refine ug z z (wY (yf fo30_3 z) z (ug z z (wY (yf fo28_1 z) z (ug z z (wY (yl ty26 z z (l.cell 5 _ z)) z (ug z z ?_))))))
   have p := e.i a z z
   refine wY (Y.len ty26 z p) z (ug z z (wY (Y.leq_i z z) z (wY (Y.pick (b := true) z z) z (WL.ren (v' := vB ((decide ((a0.Pos.Counts.length : Int) ≤ 300)) && (decide ((a0.Neg.Counts.length : Int) ≤ 300)))) 14 z (congrArg vB (andT c)) ?_))))
   exact nl (At.join () z (.cons z .nil))
  ·refine WL.gS z z z z (WL.gS z z z z (WL.gS z z z z (WL.gS z z z z (WL.gS z z z z (wY (Y.pick (b := false) z z) z (WL.ren (v' := vB ((decide ((a0.Pos.Counts.length : Int) ≤ 300)) && (decide ((a0.Neg.Counts.length : Int) ≤ 300)))) 14 z (congrArg vB (andF c)) ?_))))))
   exact nl (At.join () z (.cons z .nil))
 ·rintro _ _ rfl
  refine (show WL _ _ _ _ _ [(14, vB ((decide ((a0.Pos.Counts.length : Int) ≤ 300)) && (decide ((a0.Neg.Counts.length : Int) ≤ 300))))] _ from ?_)
  obtain ⟨J, q, h⟩ := lt1 h
  refine WL.yE (ya z) (congrArg vB q.symm) z (nl (th (rt ?_)))
  obtain rfl := some1 h
  have r : Stp [] (Lg.O0 A) w H j := (su_ a z)
  exact At.res (.inl z) z (.tmp z .nil) ⟨z, (se_ r z z)⟩
theorem c_ref11_Light {A : Nat → Prop} {a0 : List api_Pair} {v0 : Value} {w : World} (hs0 : Sl rep_api_Pair w A v0 a0) {r0 : Bool} (h : ref11_Light a0 = some r0) : Rets Try.prog 42 [v0] w (fun v w' => v = vB r0 ∧ Ext w w') := by
 unfold ref11_Light at h
 refine Rets.enter Try.func42 z z ?_
 have a : Sl rep_api_Pair w (imm (Lg.O0 A)) v0 a0 := (Sl.start hs0)
 refine (show WC _ _ _ _ [(0, v0)] _ from ?_)
 refine sq (rg (wY (ya z) z (nl (th (sq (sq (rg (wY (ym z) z (wY (Y.len ty35 z a) z ?_)))))))))
 refine wY (Y.gtr_i z z) z (nl (th ?_))
 rcases cnd h with ⟨c, h⟩ | ⟨c, h⟩
 ·refine WC.condT' z c (sq (rg (wY (ya z) z (nl (th (rt (At.thenR ?_)))))))
  obtain rfl := some1 h
  have H : Stp [] (Lg.O0 A) w (Lg.O0 A) w := (sr_ _ _ _)
  exact At.res (.inl z) z (.tmp z .nil) ⟨z, (se_ H z z)⟩
 ·refine WC.condF' z c (sk (th (sq (sq (rg (wY (ya z) z (nl (th (WC.block ?_)))))))))
  obtain ⟨F, h, p⟩ := flow1 h
  obtain ⟨G, h⟩ := loop_some h
  refine WC.joinB 0 (σ := Unit) (fun x w' => F = .go () ∧ w = w') (fun x => []) ?_ ?_
  ·refine WC.loop (σ := Int) (fun x k w' => loopN k (ref11_Light_lp1 a0) x = some F ∧ w = w') (fun x => [(0, v0), (3, vi x)]) 0 G (.cons z (.cons z .nil)) ⟨h, z⟩ ?_
   rintro q G _ ⟨h, rfl⟩
   obtain ⟨aa, al, rfl, h, d⟩ := rnd1 h
   unfold ref11_Light_lp1 at h
   try dsimp only at h
   refine (show WC _ _ _ _ [(0, v0), (3, vi q)] _ from ?_)
   refine sq (sq (rg (wY (ym z) z (wY (ym z) z (wY (Y.len ty35 z a) z (wY (Y.lss_i z z) z (nl (th ?_))))))))
   rcases cnd h with ⟨e, h⟩ | ⟨e, h⟩
   ·refine WC.condT' z e (sk (th (sq (WC.block (sq (rg (wY (ym z) z (wY (ym z) z ?_))))))))
    obtain ⟨r, I, h⟩ := bnd h
    obtain ⟨am, ae, af, aj, J, K, L, j, t, M⟩ := Sl.at2 a I
    obtain ⟨_, _, rfl, rfl, rfl⟩ := t
    replace j : CellsAt _ _ _ [vs r.Key, vs r.Val] := j
    have C := CAt.imm j M
    refine wY (Y.indexAddr ty35 ty107 z J z K L) z (wY (yf fo107_0 z) z (wY (yl ty9 z z (C.at_.sub 0 [vs r.Key] z)) z (wY (Y.len_s ty9 z) z (wY (Y.gtr_i z z) z (wY (ym z) z ?_)))))
    obtain ⟨ab, h, P⟩ := bnd h
    refine WL.cut 8 (σ := Bool) (fun x w' => x = ab ∧ w = w') (fun x => [(0, v0), (3, vi q), (28, vB x)]) ?_ ?_
    ·rcases cnd h with ⟨l, h⟩ | ⟨l, h⟩
     ·refine WL.ren 20 z (congrArg vB l) (WL.gS z z z z (WL.gS z z z z (WL.gS z z z z (WL.gS z z z z (WL.gS z z z z (WL.gS z z z z (WL.gS z z z z (wY (Y.pick (b := true) z z) z ?_))))))))
      exact nl (At.join (σ := Bool) true ⟨some1 h, z⟩ (.cons z (.cons z (.cons z .nil))))
     ·refine WL.ren 20 z (congrArg vB l) (ug z z (wY (ym z) z (ug z z (wY (ym z) z (ug z z ?_)))))
      obtain ⟨o, Q, h⟩ := bnd h
      obtain ⟨an, ah, ai, ak, S, T, U, m, D, V⟩ := Sl.at2 a Q
      obtain ⟨_, _, rfl, rfl, rfl⟩ := D
      replace m : CellsAt _ _ _ [vs o.Key, vs o.Val] := m
      have E := CAt.imm m V
      refine wY (Y.indexAddr ty35 ty107 z S z T U) z (ug z z (wY (yf fo107_1 z) z (ug z z (wY (yl ty9 z z (E.at_.sub 1 [vs o.Val] z)) z (ug z z (wY (Y.len_s ty9 z) z (ug z z (wY (Y.gtr_i z z) z (wY (Y.pick (b := false) z z) z ?_)))))))))
      exact nl (At.join (σ := Bool) (decide (100 < (o.Val.length : Int))) ⟨some1 h, z⟩ (.cons z (.cons z (.cons z .nil))))
    ·rintro ac _ ⟨rfl, rfl⟩
     replace h := P
     try dsimp only at h
     refine (show WL _ _ _ _ _ [(0, v0), (3, vi q), (28, vB ac)] _ from ?_)
     refine nl (th ?_)
     rcases cnd h with ⟨n, h⟩ | ⟨n, h⟩
     ·refine WC.condT' z n (sq (rg (wY (ya z) z (nl (th (rt (At.inBlockR (At.thenR (At.loopR ?_)))))))))
      have h := outr1 h d p
      refine At.joinBR (At.inBlockR (At.thenR ?_))
      obtain rfl := some1 h
      have W : Stp [] (Lg.O0 A) w (Lg.O0 A) w := (sr_ _ _ _)
      exact At.res (.inl z) z (.tmp z .nil) ⟨z, (se_ W z z)⟩
     ·refine WC.condF' z n (sk (At.inBlock (th (rg (wY (ym z) z (wY (Y.add_i z z) z ?_))))))
      obtain ⟨ad, X, h⟩ := lt1 h
      refine WL.yE (ya z) (congrArg vi X.symm) z (nl ?_)
      exact At.round ad aa (Nat.lt_succ_self _) ⟨next1 h d, z⟩ (.cons z (.cons z .nil))
   ·refine WC.condF' z e (WC.exit (At.thenX (At.loopX ?_)))
    exact At.hitB (σ := Unit) () ⟨brk1 h d, z⟩ .nil
  ·rintro _ _ ⟨rfl, rfl⟩
   replace h := flowK_go p
   refine (show At _ _ _ [] _ from ?_)
   refine At.inBlockHit (th (sq (rg (wY (ya z) z (nl (th (rt ?_)))))))
   obtain rfl := some1 h
   have Z : Stp [] (Lg.O0 A) w (Lg.O0 A) w := (sr_ _ _ _)
   exact At.res (.inl z) z (.tmp z .nil) ⟨z, (se_ Z z z)⟩
theorem c_ref12_Light {A : Nat → Prop} {v0_1 : Value} {v0_13 : Value} {v0_15 : Value} {a0 : api_Point} {w : World} (hs0_1 : Sl rep_api_Pair w A v0_1 a0.Attrs) (hs0_13 : Sl Rep.u w A v0_13 a0.Hist.Pos.Counts) (hs0_15 : Sl Rep.u w A v0_15 a0.Hist.Neg.Counts) {r0 : Bool} (h : ref12_Light a0 = some r0) : Rets Try.prog 17 [ag [vs a0.Name, v0_1, vi a0.Kind, vi a0.Temp, vB a0.Mono, vi a0.Start, vi a0.Time, vi a0.Int_, vu a0.Re, vu a0.Im, vi a0.Hist.Scale, vu a0.Hist.Zero, vi a0.Hist.Pos.Offset, v0_13, vi a0.Hist.Neg.Offset, v0_15, vi a0.Flags]] w (fun v w' => v = vB r0 ∧ Ext w w') := by
 unfold ref12_Light at h
 refine Rets.enter Try.func17 z z ?_
 have m : Sl rep_api_Pair w (imm (Lg.O0 A)) v0_1 a0.Attrs := (Sl.start hs0_1)
 have n : Sl Rep.u w (imm (Lg.O0 A)) v0_13 a0.Hist.Pos.Counts := (Sl.start hs0_13)
 have o : Sl Rep.u w (imm (Lg.O0 A)) v0_15 a0.Hist.Neg.Counts := (Sl.start hs0_15)
 refine (show WC _ _ _ _ [(0, ag [vs a0.Name, v0_1, vi a0.Kind, vi a0.Temp, vB a0.Mono, vi a0.Start, vi a0.Time, vi a0.Int_, vu a0.Re, vu a0.Im, vi a0.Hist.Scale, vu a0.Hist.Zero, vi a0.Hist.Pos.Offset, v0_13, vi a0.Hist.Neg.Offset, v0_15, vi a0.Flags])] _ from ?_)
 refine sq (rg ?_)
 have M := h
 obtain ⟨I, J, K, rfl⟩ := m.shape
 have h := M
 have P := h
 obtain ⟨p, q, r, rfl⟩ := n.shape
 have h := P
 have Q := h
 obtain ⟨t, C, D, rfl⟩ := o.shape
 have h := Q
 refine WL.box (O := (Lg.O0 A)) 11 [vs a0.Name, (Value.slice I J K), vi a0.Kind, vi a0.Temp, vB a0.Mono, vi a0.Start, vi a0.Time, vi a0.Int_, vu a0.Re, vu a0.Im, vi a0.Hist.Scale, vu a0.Hist.Zero, vi a0.Hist.Pos.Offset, (Value.slice p q r), vi a0.Hist.Neg.Offset, (Value.slice t C D), vi a0.Flags] z z z ?_
 intro L E S c d
 refine wY (ya z) z (nl (th (sq (rg (wY (yf fo37_0 z) z (wY (yl ty9 z z (d.cell 0 _ z)) z (wY (Y.len_s ty9 z) z (wY (Y.leq_i z z) z (wY (ym z) z ?_)))))))))
 obtain ⟨ak, h, T⟩ := bnd h
 refine WL.cut 4 (σ := (Bool × Own)) (fun x w' => x.1 = ak ∧ Stp [] E S x.2 w') (fun x => [(1, pt L 0), (11, vB x.1)]) ?_ ?_
 ·rcases cnd h with ⟨e, h⟩ | ⟨e, h⟩
  ·refine WL.ren 7 z (congrArg vB e) (ug z z (wY (yf fo37_1 z) z (ug z z (wY (yl ty35 z z (d.cell 1 _ z)) z (ug z z ?_)))))
   have U := m.i c z z
   obtain ⟨al, V, h⟩ := bnd h
   refine WL.call (vals := [(Value.slice I J K)]) kok42 z z (c_ref11_Light (A := fun _ => True) (Sl.all U) V) ?_
   rintro az aA ⟨rfl, W⟩
   obtain ⟨am, an, ao, G⟩ := adoptE E (fun k => 1) W
   refine wY (Y.pick (b := true) z z) z ?_
   exact nl (At.join (σ := (Bool × Own)) (al, am) ⟨some1 h, (su_ G z)⟩ (.cons z (.cons z .nil)))
  ·refine WL.ren 7 z (congrArg vB e) (WL.gS z z z z (WL.gS z z z z (WL.gS z z z z (wY (Y.pick (b := false) z z) z ?_))))
   exact nl (At.join (σ := (Bool × Own)) (false, E) ⟨some1 h, (sr_ _ _ _)⟩ (.cons z (.cons z .nil)))
 ·rintro ⟨ap, F⟩ X ⟨rfl, a⟩
  replace h := T
  try dsimp only at h a
  refine (show WL _ _ _ _ _ [(1, pt L 0), (11, vB ap)] _ from ?_)
  refine wY (ym z) z ?_
  obtain ⟨aq, h, Z⟩ := bnd h
  refine WL.cut 4 (σ := (Bool × Own)) (fun x w' => x.1 = aq ∧ Stp [] F X x.2 w') (fun x => [(16, vB x.1)]) ?_ ?_
  ·rcases cnd h with ⟨j, h⟩ | ⟨j, h⟩
   ·refine WL.ren 12 z (congrArg vB j) (ug z z (wY (yf fo37_10 z) z (ug z z ?_)))
    have aa := d.st a z
    refine wY (yL ty30 z z (aa.cells 10 [vi a0.Hist.Scale, vu a0.Hist.Zero, vi a0.Hist.Pos.Offset, (Value.slice p q r), vi a0.Hist.Neg.Offset, (Value.slice t C D)] z) z) z (ug z z ?_)
    have ab := n.i c z z
    have ac := ab.i a z z
    have ad := o.i c z z
    have ae := ad.i a z z
    obtain ⟨ar, af, h⟩ := bnd h
    refine WL.call (vals := [ag [vi a0.Hist.Scale, vu a0.Hist.Zero, vi a0.Hist.Pos.Offset, (Value.slice p q r), vi a0.Hist.Neg.Offset, (Value.slice t C D)]]) kok18 z z (c_ref08_Light (A := fun _ => True) (a0 := a0.Hist) (Sl.all ac) (Sl.all ae) af) ?_
    rintro aC aD ⟨rfl, ah⟩
    obtain ⟨au, av, aw, H⟩ := adoptE F (fun k => 1) ah
    refine wY (Y.pick (b := true) z z) z ?_
    exact nl (At.join (σ := (Bool × Own)) (ar, au) ⟨some1 h, (su_ H z)⟩ (.cons z .nil))
   ·refine WL.ren 12 z (congrArg vB j) (WL.gS z z z z (WL.gS z z z z (WL.gS z z z z (wY (Y.pick (b := false) z z) z ?_))))
    exact nl (At.join (σ := (Bool × Own)) (false, F) ⟨some1 h, (sr_ _ _ _)⟩ (.cons z .nil))
  ·rintro ⟨ax, ay⟩ ai ⟨rfl, l⟩
   replace h := Z
   try dsimp only at h l
   refine (show WL _ _ _ _ _ [(16, vB ax)] _ from ?_)
   refine wY (ya z) z (nl (th (rt ?_)))
   obtain rfl := some1 h
   have aj : Stp [] (Lg.O0 A) w ay ai := (tr_ (su_ c z) (tr_ (su_ a z) (su_ l z)))
   exact At.res (.inl z) z (.tmp z .nil) ⟨z, (se_ aj z z)⟩
theorem c_ref12_Some {A : Nat → Prop} {a0 : List api_Point} {v0 : Value} {a1 : Int} {w : World} (hs0 : Sl rep_api_Point w A v0 a0) {r0 : Bool} (h : ref12_Some a0 a1 = some r0) : Rets Try.prog 34 [v0, vi a1] w (fun v w' => v = vB r0 ∧ Ext w w') := by
 unfold ref12_Some at h
 refine Rets.enter Try.func34 z z ?_
 have o : Sl rep_api_Point w (imm (Lg.O0 A)) v0 a0 := (Sl.start hs0)
 refine (show WC _ _ _ _ [(0, v0), (1, vi a1)] _ from ?_)
 refine sq (rg (wY (ya z) z (nl (th (sq (sq (rg (wY (ym z) z (wY (Y.len ty22 z o) z ?_)))))))))
 refine wY (ym z) z (wY (Y.gtr_i z z) z (nl (th ?_)))
 rcases cnd h with ⟨d, h⟩ | ⟨d, h⟩
 ·refine WC.condT' z d (sq (rg (wY (ya z) z (nl (th (rt (At.thenR ?_)))))))
  obtain rfl := some1 h
  have K : Stp [] (Lg.O0 A) w (Lg.O0 A) w := (sr_ _ _ _)
  exact At.res (.inl z) z (.tmp z .nil) ⟨z, (se_ K z z)⟩
 ·refine WC.condF' z d (sk (th (sq (sq (rg (wY (ya z) z (nl (th (WC.block ?_)))))))))
  obtain ⟨D, h, p⟩ := flow1 h
  obtain ⟨E, h⟩ := loop_some h
  refine WC.joinB 0 (σ := Own) (fun x w' => D = .go () ∧ Stp [] (Lg.O0 A) w x w') (fun x => []) ?_ ?_
  ·refine WC.loop (σ := (Int × Own)) (fun x k w' => loopN k (ref12_Some_lp1 a0) x.1 = some D ∧ Stp [] (Lg.O0 A) w x.2 w') (fun x => [(0, v0), (5, vi x.1)]) (0, (Lg.O0 A)) E (.cons z (.cons z .nil)) ⟨h, (sr_ _ _ _)⟩ ?_
   rintro ⟨ae, F⟩ E an ⟨h, c⟩
   obtain ⟨af, aq, rfl, h, e⟩ := rnd1 h
   unfold ref12_Some_lp1 at h
   try dsimp only at h c
   refine (show WC _ _ _ _ [(0, v0), (5, vi ae)] _ from ?_)
   refine sq (sq (rg (wY (ym z) z (wY (ym z) z ?_))))
   have q := o.i c z z
   refine wY (Y.len ty22 z q) z (wY (Y.lss_i z z) z (nl (th ?_)))
   rcases cnd h with ⟨j, h⟩ | ⟨j, h⟩
   ·refine WC.condT' z j (sk (th (sq (WC.block (sq (rg (wY (ym z) z (wY (ym z) z ?_))))))))
    obtain ⟨a, L, h⟩ := bnd h
    obtain ⟨ar, al, am, ao, M, P, Q, l, r, S⟩ := Sl.at2 q L
    obtain ⟨_, _, rfl, rfl, ⟨_, _, rfl, ⟨G, rfl, T⟩, ⟨_, _, rfl, rfl, ⟨_, _, rfl, rfl, ⟨_, _, rfl, rfl, ⟨_, _, rfl, rfl, ⟨_, _, rfl, rfl, ⟨_, _, rfl, rfl, ⟨_, _, rfl, rfl, ⟨_, _, rfl, rfl, ⟨_, _, rfl, ⟨_, _, rfl, rfl, ⟨_, _, rfl, rfl, ⟨_, _, rfl, ⟨_, _, rfl, rfl, ⟨H, rfl, U⟩⟩, ⟨_, _, rfl, rfl, ⟨I, rfl, V⟩⟩⟩⟩⟩, rfl⟩⟩⟩⟩⟩⟩⟩⟩⟩⟩⟩ := r
    replace l : CellsAt _ _ _ [vs a.Name, G, vi a.Kind, vi a.Temp, vB a.Mono, vi a.Start, vi a.Time, vi a.Int_, vu a.Re, vu a.Im, vi a.Hist.Scale, vu a.Hist.Zero, vi a.Hist.Pos.Offset, H, vi a.Hist.Neg.Offset, I, vi a.Flags] := l
    have t := CAt.imm l S
    refine wY (Y.indexAddr ty22 ty37 z M z P Q) z (wY (yL ty37 z z t.at_ z) z ?_)
    obtain ⟨au, W, h⟩ := bnd h
    refine WL.call (vals := [ag [vs a.Name, G, vi a.Kind, vi a.Temp, vB a.Mono, vi a.Start, vi a.Time, vi a.Int_, vu a.Re, vu a.Im, vi a.Hist.Scale, vu a.Hist.Zero, vi a.Hist.Pos.Offset, H, vi a.Hist.Neg.Offset, I, vi a.Flags]]) kok17 z z (c_ref12_Light (A := fun _ => True) (a0 := a) (Sl.all T) (Sl.all U) (Sl.all V) W) ?_
    rintro ap X ⟨rfl, Z⟩
    obtain ⟨J, ah, ai, n⟩ := adoptE F (fun k => 1) Z
    refine wY (Y.not z) z (nl (th ?_))
    rcases cnd h with ⟨m, h⟩ | ⟨m, h⟩
    ·refine WC.condT' z m (sq (rg (wY (ya z) z (nl (th (rt (At.inBlockR (At.thenR (At.loopR ?_)))))))))
     have h := outr1 h e p
     refine At.joinBR (At.inBlockR (At.thenR ?_))
     obtain rfl := some1 h
     have aa : Stp [] (Lg.O0 A) w J X := (tr_ (su_ c z) (su_ n z))
     exact At.res (.inl z) z (.tmp z .nil) ⟨z, (se_ aa z z)⟩
    ·refine WC.condF' z m (sk (At.inBlock (th (rg (wY (ym z) z (wY (Y.add_i z z) z ?_))))))
     obtain ⟨aj, ab, h⟩ := lt1 h
     refine WL.yE (ya z) (congrArg vi ab.symm) z (nl ?_)
     exact At.round (aj, J) af (Nat.lt_succ_self _) ⟨next1 h e, (tr_ (su_ c z) (su_ n z))⟩ (.cons z (.cons z .nil))
   ·refine WC.condF' z j (WC.exit (At.thenX (At.loopX ?_)))
    exact At.hitB (σ := Own) F ⟨brk1 h e, (su_ c z)⟩ .nil
  ·rintro ak ac ⟨rfl, C⟩
   replace h := flowK_go p
   refine (show At _ _ _ [] _ from ?_)
   refine At.inBlockHit (th (sq (rg (wY (ya z) z (nl (th (rt ?_)))))))
   obtain rfl := some1 h
   have ad : Stp [] (Lg.O0 A) w ak ac := (su_ C z)
   exact At.res (.inl z) z (.tmp z .nil) ⟨z, (se_ ad z z)⟩
theorem c_law16_one {A : Nat → Prop} {a0 : List api_Point} {v0 : Value} {w : World} (hs0 : Sl rep_api_Point w A v0 a0) {r0 : Bool} (h : law16_one a0 = some r0) : Rets Try.prog 29 [v0] w (fun v w' => v = vB r0 ∧ Ext w w') := by
 unfold law16_one at h
 refine Rets.enter Try.func29 z z ?_
 have K : Sl rep_api_Point w (imm (Lg.O0 A)) v0 a0 := (Sl.start hs0)
 refine (show WC _ _ _ _ [(0, v0)] _ from ?_)
 refine sq (rg (wY (ya z) z (nl (th (sq (sq (rg (wY (ym z) z ?_))))))))
 obtain ⟨bR, aD, h⟩ := bnd h
 refine WL.call (vals := [v0, vi 20]) kok34 z z (c_ref12_Some (A := fun _ => True) (Sl.all K) aD) ?_
 rintro bA C ⟨rfl, aE⟩
 obtain ⟨I, a4, a5, m⟩ := adoptE (Lg.O0 A) (fun k => 1) aE
 refine wY (Y.not z) z (nl (th ?_))
 rcases cnd h with ⟨D, h⟩ | ⟨D, h⟩
 ·refine WC.condT' z D (sq (rg (wY (ya z) z (nl (th (rt (At.thenR ?_)))))))
  obtain rfl := some1 h
  have aF : Stp [] (Lg.O0 A) w I C := (su_ m z)
  exact At.res (.inl z) z (.tmp z .nil) ⟨z, (se_ aF z z)⟩
 ·refine WC.condF' z D (sk (th (sq (sq (rg (wY (ya z) z (nl (th (WC.block ?_)))))))))
  obtain ⟨aA, h, L⟩ := flow1 h
  obtain ⟨aC, h⟩ := loop_some h
  refine WC.joinB 0 (σ := Own) (fun x w' => aA = .go () ∧ Stp [] I C x w') (fun x => []) ?_ ?_
  ·refine WC.loop (σ := (Int × Own)) (fun x k w' => loopN k (law16_one_lp1 a0) x.1 = some aA ∧ Stp [] I C x.2 w') (fun x => [(0, v0), (3, vi x.1)]) (0, I) aC (.cons z (.cons z .nil)) ⟨h, (sr_ _ _ _)⟩ ?_
   rintro ⟨M, t⟩ aC bB ⟨h, j⟩
   obtain ⟨a6, bS, rfl, h, E⟩ := rnd1 h
   unfold law16_one_lp1 at h
   try dsimp only at h j
   refine (show WC _ _ _ _ [(0, v0), (3, vi M)] _ from ?_)
   refine sq (sq (rg (wY (ym z) z (wY (ym z) z ?_))))
   have aG := K.i m z z
   have P := aG.i j z z
   refine wY (Y.len ty22 z P) z (wY (Y.lss_i z z) z (nl (th ?_)))
   rcases cnd h with ⟨F, h⟩ | ⟨F, h⟩
   ·refine WC.condT' z F (sk (th (sq (WC.block (sq (WC.drawH [] [0, 1, 2, 3, 4, 5, 6, 7, 8, 9, 10, 11, 12, 13, 14, 15, 16, 17, 18, 19, 20, 21] t 22 fmix z (by kernel_rfl) ?_))))))
    intro Q n
    refine WD.y 0 z (by kernel_rfl) (fun _ _ _ => ym z) z (WD.y 1 z (by kernel_rfl) (fun _ _ _ => ym z) z ?_)
    obtain ⟨d, aH, h⟩ := bnd h
    have o := P.i n z z
    obtain ⟨bT, bj, bk, bC, aI, aJ, aK, G, aa, aL⟩ := Sl.at2 o aH
    obtain ⟨_, _, rfl, rfl, ⟨_, _, rfl, ⟨a7, rfl, bD⟩, ⟨_, _, rfl, rfl, ⟨_, _, rfl, rfl, ⟨_, _, rfl, rfl, ⟨_, _, rfl, rfl, ⟨_, _, rfl, rfl, ⟨_, _, rfl, rfl, ⟨_, _, rfl, rfl, ⟨_, _, rfl, rfl, ⟨_, _, rfl, ⟨_, _, rfl, rfl, ⟨_, _, rfl, rfl, ⟨_, _, rfl, ⟨_, _, rfl, rfl, ⟨a8, rfl, bE⟩⟩, ⟨_, _, rfl, rfl, ⟨a9, rfl, bF⟩⟩⟩⟩⟩, rfl⟩⟩⟩⟩⟩⟩⟩⟩⟩⟩⟩ := aa
    replace G : CellsAt _ _ _ [vs d.Name, a7, vi d.Kind, vi d.Temp, vB d.Mono, vi d.Start, vi d.Time, vi d.Int_, vu d.Re, vu d.Im, vi d.Hist.Scale, vu d.Hist.Zero, vi d.Hist.Pos.Offset, a8, vi d.Hist.Neg.Offset, a9, vi d.Flags] := G
    have ab := CAt.imm G aL
    refine WD.y 2 z (by kernel_rfl) (fun _ _ _ => Y.indexAddr ty22 ty37 z aI z aJ aK) z (WD.y 3 z (by kernel_rfl) (fun _ _ _ => yf fo37_2 z) z (WD.y 4 z (by kernel_rfl) (fun bG bU ac => have aM := ab.st ac z; yl ty3 z z (aM.at_.sub 2 [vi d.Kind] z)) z (WD.y 5 z (by kernel_rfl) (fun _ _ _ => ym z) z ?_)))
    obtain ⟨e, aN, h⟩ := bnd h
    obtain ⟨bW, bl, bm, bH, aO, aP, aQ, H, ad, aR⟩ := Sl.at2 o aN
    obtain ⟨_, _, rfl, rfl, ⟨_, _, rfl, ⟨ba, rfl, bI⟩, ⟨_, _, rfl, rfl, ⟨_, _, rfl, rfl, ⟨_, _, rfl, rfl, ⟨_, _, rfl, rfl, ⟨_, _, rfl, rfl, ⟨_, _, rfl, rfl, ⟨_, _, rfl, rfl, ⟨_, _, rfl, rfl, ⟨_, _, rfl, ⟨_, _, rfl, rfl, ⟨_, _, rfl, rfl, ⟨_, _, rfl, ⟨_, _, rfl, rfl, ⟨bb, rfl, bJ⟩⟩, ⟨_, _, rfl, rfl, ⟨bc, rfl, bK⟩⟩⟩⟩⟩, rfl⟩⟩⟩⟩⟩⟩⟩⟩⟩⟩⟩ := ad
    replace H : CellsAt _ _ _ [vs e.Name, ba, vi e.Kind, vi e.Temp, vB e.Mono, vi e.Start, vi e.Time, vi e.Int_, vu e.Re, vu e.Im, vi e.Hist.Scale, vu e.Hist.Zero, vi e.Hist.Pos.Offset, bb, vi e.Hist.Neg.Offset, bc, vi e.Flags] := H
    have ae := CAt.imm H aR
    refine WD.y 6 z (by kernel_rfl) (fun _ _ _ => Y.indexAddr ty22 ty37 z aO z aP aQ) z (WD.y 7 z (by kernel_rfl) (fun _ _ _ => yf fo37_2 z) z (WD.y 8 z (by kernel_rfl) (fun bn bL S => have af := ae.st S z; yl ty3 z z (af.at_.sub 2 [vi e.Kind] z)) z (WD.y 9 z (by kernel_rfl) (fun _ _ _ => Y.neq_i z z) z (WD.y 10 z (by kernel_rfl) (fun _ _ _ => ym z) z ?_))))
    obtain ⟨aS, h, ah⟩ := bnd h
    refine WD.join (σ := Bool) (f' := 0) [21, 20, 19, 18, 17, 16, 15, 14, 13, 12, 11, 10, 9, 8, 7, 6, 5, 4, 3, 2, 1, 0] (fun x O' w' => x = aS ∧ Q = w' ∧ t = O') (fun x => [(0, v0), (3, vi M), (34, vB x)]) (fun J => ?_) ?_
    ·rcases cnd h with ⟨l, h⟩ | ⟨l, h⟩
     ·refine WD.ren 23 z (congrArg vB l) (WD.gS 11 z (by kernel_rfl) z z z z (WD.gS 12 z (by kernel_rfl) z z z z (WD.gS 13 z (by kernel_rfl) z z z z (WD.gS 14 z (by kernel_rfl) z z z z (WD.gS 15 z (by kernel_rfl) z z z z (WD.gS 16 z (by kernel_rfl) z z z z (WD.gS 17 z (by kernel_rfl) z z z z (WD.gS 18 z (by kernel_rfl) z z z z (WD.gS 19 z (by kernel_rfl) z z z z ?_)))))))))
      refine WD.gS 20 z (by kernel_rfl) z z z z (WD.y 21 z (by kernel_rfl) (fun _ _ _ => Y.pick (b := true) z z) z (WD.ren 23 z (congrArg vB l.symm) ?_))
      exact J true _ _ _ ⟨some1 h, z, z⟩ (.cons z (.cons z (.cons z .nil)))
     ·refine WD.ren 23 z (congrArg vB l) (WD.gT 11 z (by kernel_rfl) z z (fun _ _ _ => ym z) z (WD.gT 12 z (by kernel_rfl) z z (fun _ _ _ => ym z) z ?_))
      obtain ⟨a, ai, h⟩ := bnd h
      obtain ⟨bM, bd, bf, bo, aj, ak, al, p, T, am⟩ := Sl.at2 o ai
      obtain ⟨_, _, rfl, rfl, ⟨_, _, rfl, ⟨aT, rfl, bp⟩, ⟨_, _, rfl, rfl, ⟨_, _, rfl, rfl, ⟨_, _, rfl, rfl, ⟨_, _, rfl, rfl, ⟨_, _, rfl, rfl, ⟨_, _, rfl, rfl, ⟨_, _, rfl, rfl, ⟨_, _, rfl, rfl, ⟨_, _, rfl, ⟨_, _, rfl, rfl, ⟨_, _, rfl, rfl, ⟨_, _, rfl, ⟨_, _, rfl, rfl, ⟨aU, rfl, bq⟩⟩, ⟨_, _, rfl, rfl, ⟨aW, rfl, br⟩⟩⟩⟩⟩, rfl⟩⟩⟩⟩⟩⟩⟩⟩⟩⟩⟩ := T
      replace p : CellsAt _ _ _ [vs a.Name, aT, vi a.Kind, vi a.Temp, vB a.Mono, vi a.Start, vi a.Time, vi a.Int_, vu a.Re, vu a.Im, vi a.Hist.Scale, vu a.Hist.Zero, vi a.Hist.Pos.Offset, aU, vi a.Hist.Neg.Offset, aW, vi a.Flags] := p
      have U := CAt.imm p am
      refine WD.gT 13 z (by kernel_rfl) z z (fun _ _ _ => Y.indexAddr ty22 ty37 z aj z ak al) z (WD.gT 14 z (by kernel_rfl) z z (fun _ _ _ => yf fo37_4 z) z (WD.gT 15 z (by kernel_rfl) z z (fun bs bO V => have an := U.st V z; yl ty4 z z (an.at_.sub 4 [vB a.Mono] z)) z (WD.gT 16 z (by kernel_rfl) z z (fun _ _ _ => ym z) z ?_)))
      obtain ⟨c, ao, h⟩ := bnd h
      obtain ⟨bP, bg, bh, bt, ap, aq, ar, q, W, au⟩ := Sl.at2 o ao
      obtain ⟨_, _, rfl, rfl, ⟨_, _, rfl, ⟨aX, rfl, bu⟩, ⟨_, _, rfl, rfl, ⟨_, _, rfl, rfl, ⟨_, _, rfl, rfl, ⟨_, _, rfl, rfl, ⟨_, _, rfl, rfl, ⟨_, _, rfl, rfl, ⟨_, _, rfl, rfl, ⟨_, _, rfl, rfl, ⟨_, _, rfl, ⟨_, _, rfl, rfl, ⟨_, _, rfl, rfl, ⟨_, _, rfl, ⟨_, _, rfl, rfl, ⟨aY, rfl, bw⟩⟩, ⟨_, _, rfl, rfl, ⟨aZ, rfl, bx⟩⟩⟩⟩⟩, rfl⟩⟩⟩⟩⟩⟩⟩⟩⟩⟩⟩ := W
      replace q : CellsAt _ _ _ [vs c.Name, aX, vi c.Kind, vi c.Temp, vB c.Mono, vi c.Start, vi c.Time, vi c.Int_, vu c.Re, vu c.Im, vi c.Hist.Scale, vu c.Hist.Zero, vi c.Hist.Pos.Offset, aY, vi c.Hist.Neg.Offset, aZ, vi c.Flags] := q
      have X := CAt.imm q au
      refine WD.gT 17 z (by kernel_rfl) z z (fun _ _ _ => Y.indexAddr ty22 ty37 z ap z aq ar) z (WD.gT 18 z (by kernel_rfl) z z (fun _ _ _ => yf fo37_4 z) z (WD.gT 19 z (by kernel_rfl) z z (fun bz bQ Z => have av := X.st Z z; yl ty4 z z (av.at_.sub 4 [vB c.Mono] z)) z (WD.gT 20 z (by kernel_rfl) z z (fun _ _ _ => Y.neqB z z ty4.u) z (WD.y 21 z (by kernel_rfl) (fun _ _ _ => Y.pick (b := false) z z) z (WD.ren 23 z (congrArg vB l.symm) ?_)))))
      exact J (!decide (a.Mono = c.Mono)) _ _ _ ⟨some1 h, z, z⟩ (.cons z (.cons z (.cons z .nil)))
    ·rintro a1 _ _ ⟨rfl, rfl, rfl⟩
     replace h := ah
     try dsimp only at h
     refine (show WD _ _ _ _ _ _ _ _ [(0, v0), (3, vi M), (34, vB a1)] _ _ from ?_)
     refine WD.done_ (by kernel_rfl) (th ?_)
     rcases cnd h with ⟨r, h⟩ | ⟨r, h⟩
     ·refine WC.condT' z r (sq (rg (wY (ya z) z (nl (th (rt (At.inBlockR (At.thenR (At.loopR ?_)))))))))
      have h := outr1 h E L
      refine At.joinBR (At.inBlockR (At.thenR ?_))
      obtain rfl := some1 h
      have aw : Stp [] (Lg.O0 A) w t Q := (tr_ (su_ m z) (tr_ (su_ j z) (su_ n z)))
      exact At.res (.inl z) z (.tmp z .nil) ⟨z, (se_ aw z z)⟩
     ·refine WC.condF' z r (sk (At.inBlock (th (rg (wY (ym z) z (wY (Y.add_i z z) z ?_))))))
      obtain ⟨a2, ax, h⟩ := lt1 h
      refine WL.yE (ya z) (congrArg vi ax.symm) z (nl ?_)
      exact At.round (a2, t) a6 (Nat.lt_succ_self _) ⟨next1 h E, (tr_ (su_ j z) (su_ n z))⟩ (.cons z (.cons z .nil))
   ·refine WC.condF' z F (WC.exit (At.thenX (At.loopX ?_)))
    exact At.hitB (σ := Own) t ⟨brk1 h E, (su_ j z)⟩ .nil
  ·rintro bi a3 ⟨rfl, ay⟩
   replace h := flowK_go L
   refine (show At _ _ _ [] _ from ?_)
   refine At.inBlockHit (th (sq (rg (wY (ya z) z (nl (th (rt ?_)))))))
   obtain rfl := some1 h
   have az : Stp [] (Lg.O0 A) w bi a3 := (tr_ (su_ m z) (su_ ay z))
   exact At.res (.inl z) z (.tmp z .nil) ⟨z, (se_ az z z)⟩
theorem c_law16_play {A : Nat → Prop} {a0 : List api_Point} {v0 : Value} {a1 : Int} {w : World} (hs0 : Sl rep_api_Point w A v0 a0) {r0 : List api_Point} {r1 : List api_Point} (h : law16_play a0 a1 = some (r0, r1)) : Rets Try.prog 30 [v0, vi a1] w (fun v w' => ∃ (u0 : Value) (u1 : Value), v = tp [u0, u1] ∧ Ext w w' ∧ Sl rep_api_Point w' (fun k => A k ∨ w.heap.size ≤ k) u0 r0 ∧ Sl rep_api_Point w' (fun k => A k ∨ w.heap.size ≤ k) u1 r1) := by
 unfold law16_play at h
 refine Rets.enter Try.func30 z z ?_
 have jT : Sl rep_api_Point w (imm (Lg.O0 A)) v0 a0 := (Sl.start hs0)
 refine (show WC _ _ _ _ [(0, v0), (1, vi a1)] _ from ?_)
 refine sq (rg (wY (ya z) z (wY (ya z) z (nl (th (sq (rg (wY (ya z) z (wY (ya z) z ?_)))))))))
 refine nl (th (sq (rg (wY (yb (vals := []) (cells := [vB false, vi 0, vi 0, vi 0, vu 0, vu 0, vi 0, vu 0, vi 0, Value.slice none 0 0, vi 0, Value.slice none 0 0]) (fe_ z) (by kernel_rfl)) z (WL.alloc (O := (Lg.O0 A)) 11 [vB false, vi 0, vi 0, vi 0, vu 0, vu 0, vi 0, vu 0, vi 0, Value.slice none 0 0, vi 0, Value.slice none 0 0] ty32 z z ?_)))))
 intro bS cU me cw jU
 refine WL.store (v := ag [vB false, vi 0, vi 0, vi 0, vu 0, vu 0, vi 0, vu 0, vi 0, Value.slice none 0 0, vi 0, Value.slice none 0 0]) (cells' := [vB false, vi 0, vi 0, vi 0, vu 0, vu 0, vi 0, vu 0, vi 0, Value.slice none 0 0, vi 0, Value.slice none 0 0]) ty32 z z jU z (le_ z) z z ?_
 intro cV cx jV
 refine nl (th (sq (sq (rg (wY (ya z) z (nl (th (WC.block ?_))))))))
 obtain ⟨jN, h, jW⟩ := flow1 h
 obtain ⟨jO, h⟩ := loop_some h
 refine WC.joinB 0 (σ := (List api_Point × List api_Point × Own × Value × Value)) (fun x w' => jN = .go (x.1, x.2.1) ∧ Stp [11, 12, 13, 14, 15, 16, 17, 18, 19, 20, 21, 23, 25, 1001, 1002, 1005, 1006, 1009, 1010] cU cV x.2.2.1 w' ∧ OwnSl 1017 rep_api_Point 37 x.2.2.1 w' x.2.2.2.1 x.1 ∧ OwnSl 1018 rep_api_Point 37 x.2.2.1 w' x.2.2.2.2 x.2.1) (fun x => [(6, x.2.2.2.1), (7, x.2.2.2.2)]) ?_ ?_
 ·refine WC.loop (σ := (List api_Point × List api_Point × Bool × Int × Int × Int × UInt64 × UInt64 × Int × UInt64 × Int × List UInt64 × Int × List UInt64 × Int × Own × Value × Value × Value × Value)) (fun x k w' => loopN k (law16_play_lp1 a0 a1) (x.1, x.2.1, x.2.2.1, x.2.2.2.1, x.2.2.2.2.1, x.2.2.2.2.2.1, x.2.2.2.2.2.2.1, x.2.2.2.2.2.2.2.1, x.2.2.2.2.2.2.2.2.1, x.2.2.2.2.2.2.2.2.2.1, x.2.2.2.2.2.2.2.2.2.2.1, x.2.2.2.2.2.2.2.2.2.2.2.1, x.2.2.2.2.2.2.2.2.2.2.2.2.1, x.2.2.2.2.2.2.2.2.2.2.2.2.2.1, x.2.2.2.2.2.2.2.2.2.2.2.2.2.2.1) = some jN ∧ Stp [11, 12, 13, 14, 15, 16, 17, 18, 19, 20, 21, 23, 25, 1001, 1002, 1005, 1006, 1009, 1010] cU cV x.2.2.2.2.2.2.2.2.2.2.2.2.2.2.2.1 w' ∧ OwnSl 1009 rep_api_Point 37 x.2.2.2.2.2.2.2.2.2.2.2.2.2.2.2.1 w' x.2.2.2.2.2.2.2.2.2.2.2.2.2.2.2.2.1 x.1 ∧ OwnSl 1010 rep_api_Point 37 x.2.2.2.2.2.2.2.2.2.2.2.2.2.2.2.1 w' x.2.2.2.2.2.2.2.2.2.2.2.2.2.2.2.2.2.1 x.2.1 ∧ Sl Rep.u w' (frs x.2.2.2.2.2.2.2.2.2.2.2.2.2.2.2.1) x.2.2.2.2.2.2.2.2.2.2.2.2.2.2.2.2.2.2.1 x.2.2.2.2.2.2.2.2.2.2.2.1 ∧ Sl Rep.u w' (frs x.2.2.2.2.2.2.2.2.2.2.2.2.2.2.2.1) x.2.2.2.2.2.2.2.2.2.2.2.2.2.2.2.2.2.2.2 x.2.2.2.2.2.2.2.2.2.2.2.2.2.1 ∧ Blk 11 x.2.2.2.2.2.2.2.2.2.2.2.2.2.2.2.1 w' bS 32 [vB x.2.2.1, vi x.2.2.2.1, vi x.2.2.2.2.1, vi x.2.2.2.2.2.1, vu x.2.2.2.2.2.2.1, vu x.2.2.2.2.2.2.2.1, vi x.2.2.2.2.2.2.2.2.1, vu x.2.2.2.2.2.2.2.2.2.1, vi x.2.2.2.2.2.2.2.2.2.2.1, x.2.2.2.2.2.2.2.2.2.2.2.2.2.2.2.2.2.2.1, vi x.2.2.2.2.2.2.2.2.2.2.2.2.1, x.2.2.2.2.2.2.2.2.2.2.2.2.2.2.2.2.2.2.2]) (fun x => [(0, v0), (1, vi a1), (6, x.2.2.2.2.2.2.2.2.2.2.2.2.2.2.2.2.1), (7, x.2.2.2.2.2.2.2.2.2.2.2.2.2.2.2.2.2.1), (8, pt bS 0), (9, vi x.2.2.2.2.2.2.2.2.2.2.2.2.2.2.1)]) ([], [], false, 0, 0, 0, 0, 0, 0, 0, 0, [], 0, [], 0, cU, Value.slice none 0 0, Value.slice none 0 0, Value.slice none 0 0, Value.slice none 0 0) jO (.cons z (.cons z (.cons z (.cons z (.cons z (.cons z .nil)))))) ⟨h, (sr_ _ _ _), (OwnSl.nil 1009 rep_api_Point 37), (OwnSl.nil 1010 rep_api_Point 37), (Or.inl ⟨z, z⟩), (Or.inl ⟨z, z⟩), jV⟩ ?_
  rintro ⟨cp, b9, aL, aM, aN, aO, aP, aQ, aR, aS, aT, bU, aU, bW, b7, b8, cj, ck, bX, bY⟩ jO jX ⟨h, bT, ca, cb, bh, bi, cc⟩
  obtain ⟨lr, mG, rfl, h, cW⟩ := rnd1 h
  unfold law16_play_lp1 at h
  try dsimp only at h bT ca cb bh bi cc
  refine (show WC _ _ _ _ [(0, v0), (1, vi a1), (6, cj), (7, ck), (8, pt bS 0), (9, vi b7)] _ from ?_)
  refine sq (sq (rg (wY (ym z) z (wY (ym z) z ?_))))
  have jY := jT.i cw z z
  have jZ := jY.i cx z z
  have cX := jZ.i bT z z
  refine wY (Y.len ty22 z cX) z (wY (Y.lss_i z z) z (nl (th ?_)))
  rcases cnd h with ⟨cq, h⟩ | ⟨cq, h⟩
  ·refine WC.condT' z cq (sk (th (sq ?_)))
   obtain ⟨ls, h, j0⟩ := bnd h
   refine WC.join (σ := (List api_Point × List api_Point × Bool × Int × Int × Int × UInt64 × UInt64 × Int × UInt64 × Int × List UInt64 × Int × List UInt64 × Own × Value × Value × Value × Value)) (fun x w' => (x.1, x.2.1, x.2.2.1, x.2.2.2.1, x.2.2.2.2.1, x.2.2.2.2.2.1, x.2.2.2.2.2.2.1, x.2.2.2.2.2.2.2.1, x.2.2.2.2.2.2.2.2.1, x.2.2.2.2.2.2.2.2.2.1, x.2.2.2.2.2.2.2.2.2.2.1, x.2.2.2.2.2.2.2.2.2.2.2.1, x.2.2.2.2.2.2.2.2.2.2.2.2.1, x.2.2.2.2.2.2.2.2.2.2.2.2.2.1) = ls ∧ Stp [11, 12, 13, 14, 15, 16, 17, 18, 19, 20, 21, 1001, 1002, 1009, 1010] b8 jX x.2.2.2.2.2.2.2.2.2.2.2.2.2.2.1 w' ∧ OwnSl 1005 rep_api_Point 37 x.2.2.2.2.2.2.2.2.2.2.2.2.2.2.1 w' x.2.2.2.2.2.2.2.2.2.2.2.2.2.2.2.1 x.1 ∧ OwnSl 1006 rep_api_Point 37 x.2.2.2.2.2.2.2.2.2.2.2.2.2.2.1 w' x.2.2.2.2.2.2.2.2.2.2.2.2.2.2.2.2.1 x.2.1 ∧ Sl Rep.u w' (frs x.2.2.2.2.2.2.2.2.2.2.2.2.2.2.1) x.2.2.2.2.2.2.2.2.2.2.2.2.2.2.2.2.2.1 x.2.2.2.2.2.2.2.2.2.2.2.1 ∧ Sl Rep.u w' (frs x.2.2.2.2.2.2.2.2.2.2.2.2.2.2.1) x.2.2.2.2.2.2.2.2.2.2.2.2.2.2.2.2.2.2 x.2.2.2.2.2.2.2.2.2.2.2.2.2.1 ∧ Blk 11 x.2.2.2.2.2.2.2.2.2.2.2.2.2.2.1 w' bS 32 [vB x.2.2.1, vi x.2.2.2.1, vi x.2.2.2.2.1, vi x.2.2.2.2.2.1, vu x.2.2.2.2.2.2.1, vu x.2.2.2.2.2.2.2.1, vi x.2.2.2.2.2.2.2.2.1, vu x.2.2.2.2.2.2.2.2.2.1, vi x.2.2.2.2.2.2.2.2.2.2.1, x.2.2.2.2.2.2.2.2.2.2.2.2.2.2.2.2.2.1, vi x.2.2.2.2.2.2.2.2.2.2.2.2.1, x.2.2.2.2.2.2.2.2.2.2.2.2.2.2.2.2.2.2]) (fun x => [(0, v0), (1, vi a1), (6, x.2.2.2.2.2.2.2.2.2.2.2.2.2.2.2.1), (7, x.2.2.2.2.2.2.2.2.2.2.2.2.2.2.2.2.1), (8, pt bS 0), (9, vi b7)]) ?_ ?_
   ·refine WC.block (sq (WC.drawH [12, 13, 14, 15, 16, 17, 18, 19, 20, 21, 1001, 1002] [0, 1, 2, 3, 4, 5, 6, 7, 8, 9, 10, 11, 12, 13, 14, 15] b8 16 fmix z (by kernel_rfl) ?_))
    intro j1 e
    refine WD.y 0 z (by kernel_rfl) (fun mf mH dE => have j2 := cc.st e z; have dF := j2.st dE z; yL ty32 z z (dF.cells 0 [vB aL, vi aM, vi aN, vi aO, vu aP, vu aQ, vi aR, vu aS, vi aT, bX, vi aU, bY] z) z) z (WD.y 1 z (by kernel_rfl) (fun _ _ _ => ym z) z (WD.y 2 z (by kernel_rfl) (fun _ _ _ => ym z) z ?_))
    obtain ⟨c, dG, h⟩ := bnd h
    have cy := cX.i e z z
    obtain ⟨mg, lu, lv, lN, dH, dI, dJ, cd, cY, dK⟩ := Sl.at2 cy dG
    obtain ⟨_, _, rfl, rfl, ⟨_, _, rfl, ⟨bG, rfl, bu⟩, ⟨_, _, rfl, rfl, ⟨_, _, rfl, rfl, ⟨_, _, rfl, rfl, ⟨_, _, rfl, rfl, ⟨_, _, rfl, rfl, ⟨_, _, rfl, rfl, ⟨_, _, rfl, rfl, ⟨_, _, rfl, rfl, ⟨_, _, rfl, ⟨_, _, rfl, rfl, ⟨_, _, rfl, rfl, ⟨_, _, rfl, ⟨_, _, rfl, rfl, ⟨bH, rfl, bw⟩⟩, ⟨_, _, rfl, rfl, ⟨bI, rfl, bx⟩⟩⟩⟩⟩, rfl⟩⟩⟩⟩⟩⟩⟩⟩⟩⟩⟩ := cY
    replace cd : CellsAt _ _ _ [vs c.Name, bG, vi c.Kind, vi c.Temp, vB c.Mono, vi c.Start, vi c.Time, vi c.Int_, vu c.Re, vu c.Im, vi c.Hist.Scale, vu c.Hist.Zero, vi c.Hist.Pos.Offset, bH, vi c.Hist.Neg.Offset, bI, vi c.Flags] := cd
    have cZ := CAt.imm cd dK
    refine WD.y 3 z (by kernel_rfl) (fun _ _ _ => Y.indexAddr ty22 ty37 z dH z dI dJ) z (WD.y 4 z (by kernel_rfl) (fun lO mh c0 => have dL := cZ.st c0 z; yL ty37 z z dL.at_ z) z (WD.y 5 z (by kernel_rfl) (fun _ _ _ => ym z) z ?_))
    obtain ⟨j3, dM, h⟩ := rhs1 h
    refine WD.join (σ := (Bool × Int × Int × Int × UInt64 × UInt64 × Int × UInt64 × Int × List UInt64 × Int × List UInt64 × List UInt8 × List api_Pair × Int × Int × Bool × Int × Int × Int × UInt64 × UInt64 × Int × UInt64 × Int × List UInt64 × Int × List UInt64 × Int × Int × Own × Nat × Nat × Value × Value × Value × Value × Value)) (f' := 3) [12, 11, 10, 9, 8, 7, 6, 5, 4, 3, 2, 1, 0] (fun x O' w' => law16_play_k2 a0 cp b9 aL aM aN aO aP aQ aR aS aT bU aU bW b7 (x.1, x.2.1, x.2.2.1, x.2.2.2.1, x.2.2.2.2.1, x.2.2.2.2.2.1, x.2.2.2.2.2.2.1, x.2.2.2.2.2.2.2.1, x.2.2.2.2.2.2.2.2.1, x.2.2.2.2.2.2.2.2.2.1, x.2.2.2.2.2.2.2.2.2.2.1, x.2.2.2.2.2.2.2.2.2.2.2.1, x.2.2.2.2.2.2.2.2.2.2.2.2.1, x.2.2.2.2.2.2.2.2.2.2.2.2.2.1, x.2.2.2.2.2.2.2.2.2.2.2.2.2.2.1, x.2.2.2.2.2.2.2.2.2.2.2.2.2.2.2.1, x.2.2.2.2.2.2.2.2.2.2.2.2.2.2.2.2.1, x.2.2.2.2.2.2.2.2.2.2.2.2.2.2.2.2.2.1, x.2.2.2.2.2.2.2.2.2.2.2.2.2.2.2.2.2.2.1, x.2.2.2.2.2.2.2.2.2.2.2.2.2.2.2.2.2.2.2.1, x.2.2.2.2.2.2.2.2.2.2.2.2.2.2.2.2.2.2.2.2.1, x.2.2.2.2.2.2.2.2.2.2.2.2.2.2.2.2.2.2.2.2.2.1, x.2.2.2.2.2.2.2.2.2.2.2.2.2.2.2.2.2.2.2.2.2.2.1, x.2.2.2.2.2.2.2.2.2.2.2.2.2.2.2.2.2.2.2.2.2.2.2.1, x.2.2.2.2.2.2.2.2.2.2.2.2.2.2.2.2.2.2.2.2.2.2.2.2.1, x.2.2.2.2.2.2.2.2.2.2.2.2.2.2.2.2.2.2.2.2.2.2.2.2.2.1, x.2.2.2.2.2.2.2.2.2.2.2.2.2.2.2.2.2.2.2.2.2.2.2.2.2.2.1, x.2.2.2.2.2.2.2.2.2.2.2.2.2.2.2.2.2.2.2.2.2.2.2.2.2.2.2.1, x.2.2.2.2.2.2.2.2.2.2.2.2.2.2.2.2.2.2.2.2.2.2.2.2.2.2.2.2.1, x.2.2.2.2.2.2.2.2.2.2.2.2.2.2.2.2.2.2.2.2.2.2.2.2.2.2.2.2.2.1) = some j3 ∧ Stp [12, 13, 14, 15, 16, 17, 18, 19, 20, 21] b8 j1 x.2.2.2.2.2.2.2.2.2.2.2.2.2.2.2.2.2.2.2.2.2.2.2.2.2.2.2.2.2.2.1 w' ∧ Blk 1001 x.2.2.2.2.2.2.2.2.2.2.2.2.2.2.2.2.2.2.2.2.2.2.2.2.2.2.2.2.2.2.1 w' x.2.2.2.2.2.2.2.2.2.2.2.2.2.2.2.2.2.2.2.2.2.2.2.2.2.2.2.2.2.2.2.1 32 [vB false, vi 0, vi 0, vi 0, vu 0, vu 0, vi 0, vu 0, vi 0, Value.slice none 0 0, vi 0, Value.slice none 0 0] ∧ Blk 1002 x.2.2.2.2.2.2.2.2.2.2.2.2.2.2.2.2.2.2.2.2.2.2.2.2.2.2.2.2.2.2.1 w' x.2.2.2.2.2.2.2.2.2.2.2.2.2.2.2.2.2.2.2.2.2.2.2.2.2.2.2.2.2.2.2.2.1 37 [vs [], Value.slice none 0 0, vi 0, vi 0, vB false, vi 0, vi 0, vi 0, vu 0, vu 0, vi 0, vu 0, vi 0, Value.slice none 0 0, vi 0, Value.slice none 0 0, vi 0] ∧ Sl Rep.u w' (frs x.2.2.2.2.2.2.2.2.2.2.2.2.2.2.2.2.2.2.2.2.2.2.2.2.2.2.2.2.2.2.1) x.2.2.2.2.2.2.2.2.2.2.2.2.2.2.2.2.2.2.2.2.2.2.2.2.2.2.2.2.2.2.2.2.2.1 x.2.2.2.2.2.2.2.2.2.1 ∧ Sl Rep.u w' (frs x.2.2.2.2.2.2.2.2.2.2.2.2.2.2.2.2.2.2.2.2.2.2.2.2.2.2.2.2.2.2.1) x.2.2.2.2.2.2.2.2.2.2.2.2.2.2.2.2.2.2.2.2.2.2.2.2.2.2.2.2.2.2.2.2.2.2.1 x.2.2.2.2.2.2.2.2.2.2.2.1 ∧ Sl rep_api_Pair w' (frs x.2.2.2.2.2.2.2.2.2.2.2.2.2.2.2.2.2.2.2.2.2.2.2.2.2.2.2.2.2.2.1) x.2.2.2.2.2.2.2.2.2.2.2.2.2.2.2.2.2.2.2.2.2.2.2.2.2.2.2.2.2.2.2.2.2.2.2.1 x.2.2.2.2.2.2.2.2.2.2.2.2.2.1 ∧ Sl Rep.u w' (frs x.2.2.2.2.2.2.2.2.2.2.2.2.2.2.2.2.2.2.2.2.2.2.2.2.2.2.2.2.2.2.1) x.2.2.2.2.2.2.2.2.2.2.2.2.2.2.2.2.2.2.2.2.2.2.2.2.2.2.2.2.2.2.2.2.2.2.2.2.1 x.2.2.2.2.2.2.2.2.2.2.2.2.2.2.2.2.2.2.2.2.2.2.2.2.2.1 ∧ Sl Rep.u w' (frs x.2.2.2.2.2.2.2.2.2.2.2.2.2.2.2.2.2.2.2.2.2.2.2.2.2.2.2.2.2.2.1) x.2.2.2.2.2.2.2.2.2.2.2.2.2.2.2.2.2.2.2.2.2.2.2.2.2.2.2.2.2.2.2.2.2.2.2.2.2 x.2.2.2.2.2.2.2.2.2.2.2.2.2.2.2.2.2.2.2.2.2.2.2.2.2.2.2.1 ∧ x.2.2.2.2.2.2.2.2.2.2.2.2.2.2.2.2.2.2.2.2.2.2.2.2.2.2.2.2.2.2.1 = O') (fun x => [(0, v0), (1, vi a1), (6, cj), (7, ck), (8, pt bS 0), (9, vi b7), (10, Value.pointer (some ⟨x.2.2.2.2.2.2.2.2.2.2.2.2.2.2.2.2.2.2.2.2.2.2.2.2.2.2.2.2.2.2.2.1, 0, none⟩)), (11, Value.pointer (some ⟨x.2.2.2.2.2.2.2.2.2.2.2.2.2.2.2.2.2.2.2.2.2.2.2.2.2.2.2.2.2.2.2.2.1, 0, none⟩)), (28, ag [vB x.1, vi x.2.1, vi x.2.2.1, vi x.2.2.2.1, vu x.2.2.2.2.1, vu x.2.2.2.2.2.1, vi x.2.2.2.2.2.2.1, vu x.2.2.2.2.2.2.2.1, vi x.2.2.2.2.2.2.2.2.1, x.2.2.2.2.2.2.2.2.2.2.2.2.2.2.2.2.2.2.2.2.2.2.2.2.2.2.2.2.2.2.2.2.2.1, vi x.2.2.2.2.2.2.2.2.2.2.1, x.2.2.2.2.2.2.2.2.2.2.2.2.2.2.2.2.2.2.2.2.2.2.2.2.2.2.2.2.2.2.2.2.2.2.1]), (29, ag [vs x.2.2.2.2.2.2.2.2.2.2.2.2.1, x.2.2.2.2.2.2.2.2.2.2.2.2.2.2.2.2.2.2.2.2.2.2.2.2.2.2.2.2.2.2.2.2.2.2.2.1, vi x.2.2.2.2.2.2.2.2.2.2.2.2.2.2.1, vi x.2.2.2.2.2.2.2.2.2.2.2.2.2.2.2.1, vB x.2.2.2.2.2.2.2.2.2.2.2.2.2.2.2.2.1, vi x.2.2.2.2.2.2.2.2.2.2.2.2.2.2.2.2.2.1, vi x.2.2.2.2.2.2.2.2.2.2.2.2.2.2.2.2.2.2.1, vi x.2.2.2.2.2.2.2.2.2.2.2.2.2.2.2.2.2.2.2.1, vu x.2.2.2.2.2.2.2.2.2.2.2.2.2.2.2.2.2.2.2.2.1, vu x.2.2.2.2.2.2.2.2.2.2.2.2.2.2.2.2.2.2.2.2.2.1, vi x.2.2.2.2.2.2.2.2.2.2.2.2.2.2.2.2.2.2.2.2.2.2.1, vu x.2.2.2.2.2.2.2.2.2.2.2.2.2.2.2.2.2.2.2.2.2.2.2.1, vi x.2.2.2.2.2.2.2.2.2.2.2.2.2.2.2.2.2.2.2.2.2.2.2.2.1, x.2.2.2.2.2.2.2.2.2.2.2.2.2.2.2.2.2.2.2.2.2.2.2.2.2.2.2.2.2.2.2.2.2.2.2.2.1, vi x.2.2.2.2.2.2.2.2.2.2.2.2.2.2.2.2.2.2.2.2.2.2.2.2.2.2.1, x.2.2.2.2.2.2.2.2.2.2.2.2.2.2.2.2.2.2.2.2.2.2.2.2.2.2.2.2.2.2.2.2.2.2.2.2.2, vi x.2.2.2.2.2.2.2.2.2.2.2.2.2.2.2.2.2.2.2.2.2.2.2.2.2.2.2.2.1]), (30, vi x.2.2.2.2.2.2.2.2.2.2.2.2.2.2.2.2.2.2.2.2.2.2.2.2.2.2.2.2.2.1)]) (fun bg => ?_) ?_
    ·refine WD.heavy3 6 11 12 z z z (by kernel_rfl) ?_ ?_ ?_
     ·have dN := bh.f e z
      have dO := bi.f e z
      obtain ⟨⟨m, d, c1⟩, dP, h⟩ := bnd h
      refine WL.call (vals := [ag [vB aL, vi aM, vi aN, vi aO, vu aP, vu aQ, vi aR, vu aS, vi aT, bX, vi aU, bY], ag [vs c.Name, bG, vi c.Kind, vi c.Temp, vB c.Mono, vi c.Start, vi c.Time, vi c.Int_, vu c.Re, vu c.Im, vi c.Hist.Scale, vu c.Hist.Zero, vi c.Hist.Pos.Offset, bH, vi c.Hist.Neg.Offset, bI, vi c.Flags], vi a1]) kok20 z z (c_tocum_Next (A := fun _ => True) (a0 := (api_State.mk aL aM aN aO aP aQ (api_Hist.mk aR aS (api_Side.mk aT bU) (api_Side.mk aU bW)))) (a1 := c) (Sl.all dN) (Sl.all dO) (Sl.all bu) (Sl.all bw) (Sl.all bx) dP) ?_
      rintro lP bz ⟨cr, cs, ct, cu, cv, rfl, dQ, j4, j5, j6, j7, j8⟩
      obtain ⟨bj, lj, aW, bZ⟩ := adoptE b8 (fun k => 1) dQ
      have cz : Sl Rep.u bz (frs bj) cr m.Hist.Pos.Counts := Sl.adoptF j4 (fun k hk => ⟨hk, z⟩) aW
      have cA : Sl Rep.u bz (frs bj) cs m.Hist.Neg.Counts := Sl.adoptF j5 (fun k hk => ⟨hk, z⟩) aW
      have cC : Sl rep_api_Pair bz (frs bj) ct d.Attrs := Sl.adoptF j6 (fun k hk => ⟨hk, z⟩) aW
      have cD : Sl Rep.u bz (frs bj) cu d.Hist.Pos.Counts := Sl.adoptF j7 (fun k hk => ⟨hk, z⟩) aW
      have cE : Sl Rep.u bz (frs bj) cv d.Hist.Neg.Counts := Sl.adoptF j8 (fun k hk => ⟨hk, z⟩) aW
      refine nl (At.dq (su_ bZ z) (WD.y 7 z (by kernel_rfl) (fun _ _ _ => ym z) z (WD.y 8 z (by kernel_rfl) (fun _ _ _ => yx z z) z (WD.y 9 z (by kernel_rfl) (fun _ _ _ => yx z z) z (WD.y 10 z (by kernel_rfl) (fun _ _ _ => yx z z) z ?_)))))
      refine WD.heavy2 11 12 z z (by kernel_rfl) ?_ ?_
      ·refine WL.alloc (O := bj) 12 [vB false, vi 0, vi 0, vi 0, vu 0, vu 0, vi 0, vu 0, vi 0, Value.slice none 0 0, vi 0, Value.slice none 0 0] ty32 z z ?_
       intro j9 ka lQ aH dR
       refine nl (At.dq (su_ aH z) (WD.heavy 12 z (by kernel_rfl) (WL.alloc (O := ka) 13 [vs [], Value.slice none 0 0, vi 0, vi 0, vB false, vi 0, vi 0, vi 0, vu 0, vu 0, vi 0, vu 0, vi 0, Value.slice none 0 0, vi 0, Value.slice none 0 0, vi 0] ty37 z z ?_)))
       intro kb mi lR al dS
       refine nl (At.dq (su_ al z) ?_)
       have dT := dR.st al z
       obtain ⟨mj, am, dU⟩ := Blk.rlb 1001 rfl dT
       have dV := dS.st am z
       obtain ⟨kc, an, dW⟩ := Blk.rlb 1002 rfl dV
       have dX := dU.st an z
       have dY := cz.f aH z
       have dZ := dY.f al z
       have d0 := dZ.f am z
       have d1 := d0.f an z
       have d2 := cA.f aH z
       have d3 := d2.f al z
       have d4 := d3.f am z
       have d5 := d4.f an z
       have d6 := cC.f aH z
       have d7 := d6.f al z
       have d8 := d7.f am z
       have d9 := d8.f an z
       have ea := cD.f aH z
       have eb := ea.f al z
       have ec := eb.f am z
       have ed := ec.f an z
       have ee := cE.f aH z
       have ef := ee.f al z
       have eg := ef.f am z
       have eh := eg.f an z
       refine WD.own (tr_ (su_ am z) (su_ an z)) (WD.perm _ [12, 11, 10, 9, 8, 7, 6, 5, 4, 3, 2, 1, 0] (by kernel_rfl) ?_)
       exact bg (m.Some, m.Start, m.Time, m.Int_, m.Re, m.Im, m.Hist.Scale, m.Hist.Zero, m.Hist.Pos.Offset, m.Hist.Pos.Counts, m.Hist.Neg.Offset, m.Hist.Neg.Counts, d.Name, d.Attrs, d.Kind, d.Temp, d.Mono, d.Start, d.Time, d.Int_, d.Re, d.Im, d.Hist.Scale, d.Hist.Zero, d.Hist.Pos.Offset, d.Hist.Pos.Counts, d.Hist.Neg.Offset, d.Hist.Neg.Counts, d.Flags, c1, kc, j9, kb, cr, cs, ct, cu, cv) _ _ _ ⟨h, (tr_ (su_ bZ z) (tr_ (su_ aH z) (tr_ (su_ al z) (tr_ (su_ am z) (su_ an z))))), dX, dW, d1, d5, d9, ed, eh, z⟩ (.cons z (.cons z (.cons z (.cons z (.cons z (.cons z (.cons z (.cons z (.cons z (.cons z (.cons z .nil)))))))))))
      ·refine WL.alloc (O := bj) 14 [vs [], Value.slice none 0 0, vi 0, vi 0, vB false, vi 0, vi 0, vi 0, vu 0, vu 0, vi 0, vu 0, vi 0, Value.slice none 0 0, vi 0, Value.slice none 0 0, vi 0] ty37 z z ?_
       intro kd ke lS aI ei
       refine nl (At.dq (su_ aI z) (WD.heavy 11 z (by kernel_rfl) (WL.alloc (O := ke) 15 [vB false, vi 0, vi 0, vi 0, vu 0, vu 0, vi 0, vu 0, vi 0, Value.slice none 0 0, vi 0, Value.slice none 0 0] ty32 z z ?_)))
       intro kf ml lT ao ej
       refine nl (At.dq (su_ ao z) ?_)
       obtain ⟨mm, ap, ek⟩ := Blk.rlb 1001 rfl ej
       have em := ei.st ao z
       have en := em.st ap z
       obtain ⟨kg, aq, eo⟩ := Blk.rlb 1002 rfl en
       have ep := ek.st aq z
       have er := cz.f aI z
       have es := er.f ao z
       have et := es.f ap z
       have eu := et.f aq z
       have ew := cA.f aI z
       have ex := ew.f ao z
       have ey := ex.f ap z
       have ez := ey.f aq z
       have eA := cC.f aI z
       have eB := eA.f ao z
       have eC := eB.f ap z
       have eD := eC.f aq z
       have eE := cD.f aI z
       have eF := eE.f ao z
       have eG := eF.f ap z
       have eH := eG.f aq z
       have eI := cE.f aI z
       have eJ := eI.f ao z
       have eK := eJ.f ap z
       have eL := eK.f aq z
       refine WD.own (tr_ (su_ ap z) (su_ aq z)) (WD.perm _ [12, 11, 10, 9, 8, 7, 6, 5, 4, 3, 2, 1, 0] (by kernel_rfl) ?_)
       exact bg (m.Some, m.Start, m.Time, m.Int_, m.Re, m.Im, m.Hist.Scale, m.Hist.Zero, m.Hist.Pos.Offset, m.Hist.Pos.Counts, m.Hist.Neg.Offset, m.Hist.Neg.Counts, d.Name, d.Attrs, d.Kind, d.Temp, d.Mono, d.Start, d.Time, d.Int_, d.Re, d.Im, d.Hist.Scale, d.Hist.Zero, d.Hist.Pos.Offset, d.Hist.Pos.Counts, d.Hist.Neg.Offset, d.Hist.Neg.Counts, d.Flags, c1, kg, kf, kd, cr, cs, ct, cu, cv) _ _ _ ⟨h, (tr_ (su_ bZ z) (tr_ (su_ aI z) (tr_ (su_ ao z) (tr_ (su_ ap z) (su_ aq z))))), ep, eo, eu, ez, eD, eH, eL, z⟩ (.cons z (.cons z (.cons z (.cons z (.cons z (.cons z (.cons z (.cons z (.cons z (.cons z (.cons z .nil)))))))))))
     ·refine WL.alloc (O := b8) 16 [vB false, vi 0, vi 0, vi 0, vu 0, vu 0, vi 0, vu 0, vi 0, Value.slice none 0 0, vi 0, Value.slice none 0 0] ty32 z z ?_
      intro c2 c3 lU F cF
      refine nl (At.dq (su_ F z) ?_)
      refine WD.heavy2 6 12 z z (by kernel_rfl) ?_ ?_
      ·have eM := bh.f e z
       have eN := eM.f F z
       have eO := bi.f e z
       have eP := eO.f F z
       have eQ := bu.i F z z
       have eR := bw.i F z z
       have eS := bx.i F z z
       obtain ⟨⟨ae, G, kh⟩, eT, h⟩ := bnd h
       refine WL.call (vals := [ag [vB aL, vi aM, vi aN, vi aO, vu aP, vu aQ, vi aR, vu aS, vi aT, bX, vi aU, bY], ag [vs c.Name, bG, vi c.Kind, vi c.Temp, vB c.Mono, vi c.Start, vi c.Time, vi c.Int_, vu c.Re, vu c.Im, vi c.Hist.Scale, vu c.Hist.Zero, vi c.Hist.Pos.Offset, bH, vi c.Hist.Neg.Offset, bI, vi c.Flags], vi a1]) kok20 z z (c_tocum_Next (A := fun _ => True) (a0 := (api_State.mk aL aM aN aO aP aQ (api_Hist.mk aR aS (api_Side.mk aT bU) (api_Side.mk aU bW)))) (a1 := c) (Sl.all eN) (Sl.all eP) (Sl.all eQ) (Sl.all eR) (Sl.all eS) eT) ?_
       rintro lV bA ⟨c4, c5, c6, c7, c8, rfl, eU, ki, kj, kk, km, kn⟩
       obtain ⟨bJ, ll, aX, b0⟩ := adoptE c3 (fun k => 1) eU
       have eV : Sl Rep.u bA (frs bJ) c4 ae.Hist.Pos.Counts := Sl.adoptF ki (fun k hk => ⟨hk, z⟩) aX
       have eW : Sl Rep.u bA (frs bJ) c5 ae.Hist.Neg.Counts := Sl.adoptF kj (fun k hk => ⟨hk, z⟩) aX
       have eX : Sl rep_api_Pair bA (frs bJ) c6 G.Attrs := Sl.adoptF kk (fun k hk => ⟨hk, z⟩) aX
       have eY : Sl Rep.u bA (frs bJ) c7 G.Hist.Pos.Counts := Sl.adoptF km (fun k hk => ⟨hk, z⟩) aX
       have eZ : Sl Rep.u bA (frs bJ) c8 G.Hist.Neg.Counts := Sl.adoptF kn (fun k hk => ⟨hk, z⟩) aX
       refine nl (At.dq (su_ b0 z) (WD.y 7 z (by kernel_rfl) (fun _ _ _ => ym z) z (WD.y 8 z (by kernel_rfl) (fun _ _ _ => yx z z) z (WD.y 9 z (by kernel_rfl) (fun _ _ _ => yx z z) z (WD.y 10 z (by kernel_rfl) (fun _ _ _ => yx z z) z (WD.heavy 12 z (by kernel_rfl) (WL.alloc (O := bJ) 17 [vs [], Value.slice none 0 0, vi 0, vi 0, vB false, vi 0, vi 0, vi 0, vu 0, vu 0, vi 0, vu 0, vi 0, Value.slice none 0 0, vi 0, Value.slice none 0 0, vi 0] ty37 z z ?_)))))))
       intro ko mn lW ar e0
       refine nl (At.dq (su_ ar z) ?_)
       have e1 := cF.st b0 z
       have e2 := e1.st ar z
       obtain ⟨mo, au, e5⟩ := Blk.rlb 1001 rfl e2
       have e6 := e0.st au z
       obtain ⟨kp, av, e7⟩ := Blk.rlb 1002 rfl e6
       have e8 := e5.st av z
       have e9 := eV.f ar z
       have fa := e9.f au z
       have fb := fa.f av z
       have fc := eW.f ar z
       have fd := fc.f au z
       have fe := fd.f av z
       have ff := eX.f ar z
       have fg := ff.f au z
       have fh := fg.f av z
       have fi := eY.f ar z
       have fj := fi.f au z
       have fk := fj.f av z
       have fl := eZ.f ar z
       have fm := fl.f au z
       have fn := fm.f av z
       refine WD.own (tr_ (su_ au z) (su_ av z)) (WD.perm _ [12, 11, 10, 9, 8, 7, 6, 5, 4, 3, 2, 1, 0] (by kernel_rfl) ?_)
       exact bg (ae.Some, ae.Start, ae.Time, ae.Int_, ae.Re, ae.Im, ae.Hist.Scale, ae.Hist.Zero, ae.Hist.Pos.Offset, ae.Hist.Pos.Counts, ae.Hist.Neg.Offset, ae.Hist.Neg.Counts, G.Name, G.Attrs, G.Kind, G.Temp, G.Mono, G.Start, G.Time, G.Int_, G.Re, G.Im, G.Hist.Scale, G.Hist.Zero, G.Hist.Pos.Offset, G.Hist.Pos.Counts, G.Hist.Neg.Offset, G.Hist.Neg.Counts, G.Flags, kh, kp, c2, ko, c4, c5, c6, c7, c8) _ _ _ ⟨h, (tr_ (su_ F z) (tr_ (su_ b0 z) (tr_ (su_ ar z) (tr_ (su_ au z) (su_ av z))))), e8, e7, fb, fe, fh, fk, fn, z⟩ (.cons z (.cons z (.cons z (.cons z (.cons z (.cons z (.cons z (.cons z (.cons z (.cons z (.cons z .nil)))))))))))
      ·refine WL.alloc (O := c3) 18 [vs [], Value.slice none 0 0, vi 0, vi 0, vB false, vi 0, vi 0, vi 0, vu 0, vu 0, vi 0, vu 0, vi 0, Value.slice none 0 0, vi 0, Value.slice none 0 0, vi 0] ty37 z z ?_
       intro kq kr lX aw fo
       refine nl (At.dq (su_ aw z) (WD.heavy 6 z (by kernel_rfl) ?_))
       have fp := bh.f e z
       have fq := fp.f F z
       have fr := fq.f aw z
       have fs := bi.f e z
       have ft := fs.f F z
       have fu := ft.f aw z
       have fv := bu.i F z z
       have fw := fv.i aw z z
       have fx := bw.i F z z
       have fy := fx.i aw z z
       have fz := bx.i F z z
       have fA := fz.i aw z z
       obtain ⟨⟨af, H, ks⟩, fB, h⟩ := bnd h
       refine WL.call (vals := [ag [vB aL, vi aM, vi aN, vi aO, vu aP, vu aQ, vi aR, vu aS, vi aT, bX, vi aU, bY], ag [vs c.Name, bG, vi c.Kind, vi c.Temp, vB c.Mono, vi c.Start, vi c.Time, vi c.Int_, vu c.Re, vu c.Im, vi c.Hist.Scale, vu c.Hist.Zero, vi c.Hist.Pos.Offset, bH, vi c.Hist.Neg.Offset, bI, vi c.Flags], vi a1]) kok20 z z (c_tocum_Next (A := fun _ => True) (a0 := (api_State.mk aL aM aN aO aP aQ (api_Hist.mk aR aS (api_Side.mk aT bU) (api_Side.mk aU bW)))) (a1 := c) (Sl.all fr) (Sl.all fu) (Sl.all fw) (Sl.all fy) (Sl.all fA) fB) ?_
       rintro lY bB ⟨c9, da, db, dc, dd, rfl, fC, kt, ku, kv, kw, kx⟩
       obtain ⟨b1, lm, aY, bC⟩ := adoptE kr (fun k => 1) fC
       have fD : Sl Rep.u bB (frs b1) c9 af.Hist.Pos.Counts := Sl.adoptF kt (fun k hk => ⟨hk, z⟩) aY
       have fF : Sl Rep.u bB (frs b1) da af.Hist.Neg.Counts := Sl.adoptF ku (fun k hk => ⟨hk, z⟩) aY
       have fG : Sl rep_api_Pair bB (frs b1) db H.Attrs := Sl.adoptF kv (fun k hk => ⟨hk, z⟩) aY
       have fH : Sl Rep.u bB (frs b1) dc H.Hist.Pos.Counts := Sl.adoptF kw (fun k hk => ⟨hk, z⟩) aY
       have fI : Sl Rep.u bB (frs b1) dd H.Hist.Neg.Counts := Sl.adoptF kx (fun k hk => ⟨hk, z⟩) aY
       refine nl (At.dq (su_ bC z) (WD.y 7 z (by kernel_rfl) (fun _ _ _ => ym z) z (WD.y 8 z (by kernel_rfl) (fun _ _ _ => yx z z) z (WD.y 9 z (by kernel_rfl) (fun _ _ _ => yx z z) z (WD.y 10 z (by kernel_rfl) (fun _ _ _ => yx z z) z ?_)))))
       have fJ := cF.st aw z
       have fK := fJ.st bC z
       obtain ⟨mp, ax, fL⟩ := Blk.rlb 1001 rfl fK
       have fN := fo.st bC z
       have fO := fN.st ax z
       obtain ⟨ky, ay, fP⟩ := Blk.rlb 1002 rfl fO
       have fQ := fL.st ay z
       have fR := fD.f ax z
       have fT := fR.f ay z
       have fU := fF.f ax z
       have fV := fU.f ay z
       have fY := fG.f ax z
       have f0 := fY.f ay z
       have f1 := fH.f ax z
       have f2 := f1.f ay z
       have f3 := fI.f ax z
       have f4 := f3.f ay z
       refine WD.own (tr_ (su_ ax z) (su_ ay z)) (WD.perm _ [12, 11, 10, 9, 8, 7, 6, 5, 4, 3, 2, 1, 0] (by kernel_rfl) ?_)
       exact bg (af.Some, af.Start, af.Time, af.Int_, af.Re, af.Im, af.Hist.Scale, af.Hist.Zero, af.Hist.Pos.Offset, af.Hist.Pos.Counts, af.Hist.Neg.Offset, af.Hist.Neg.Counts, H.Name, H.Attrs, H.Kind, H.Temp, H.Mono, H.Start, H.Time, H.Int_, H.Re, H.Im, H.Hist.Scale, H.Hist.Zero, H.Hist.Pos.Offset, H.Hist.Pos.Counts, H.Hist.Neg.Offset, H.Hist.Neg.Counts, H.Flags, ks, ky, c2, kq, c9, da, db, dc, dd) _ _ _ ⟨h, (tr_ (su_ F z) (tr_ (su_ aw z) (tr_ (su_ bC z) (tr_ (su_ ax z) (su_ ay z))))), fQ, fP, fT, fV, f0, f2, f4, z⟩ (.cons z (.cons z (.cons z (.cons z (.cons z (.cons z (.cons z (.cons z (.cons z (.cons z (.cons z .nil)))))))))))
     ·refine WL.alloc (O := b8) 19 [vs [], Value.slice none 0 0, vi 0, vi 0, vB false, vi 0, vi 0, vi 0, vu 0, vu 0, vi 0, vu 0, vi 0, Value.slice none 0 0, vi 0, Value.slice none 0 0, vi 0] ty37 z z ?_
      intro de df lZ I cG
      refine nl (At.dq (su_ I z) ?_)
      refine WD.heavy2 6 11 z z (by kernel_rfl) ?_ ?_
      ·have f5 := bh.f e z
       have f6 := f5.f I z
       have f7 := bi.f e z
       have f8 := f7.f I z
       have f9 := bu.i I z z
       have ga := bw.i I z z
       have gb := bx.i I z z
       obtain ⟨⟨ah, J, kz⟩, gc, h⟩ := bnd h
       refine WL.call (vals := [ag [vB aL, vi aM, vi aN, vi aO, vu aP, vu aQ, vi aR, vu aS, vi aT, bX, vi aU, bY], ag [vs c.Name, bG, vi c.Kind, vi c.Temp, vB c.Mono, vi c.Start, vi c.Time, vi c.Int_, vu c.Re, vu c.Im, vi c.Hist.Scale, vu c.Hist.Zero, vi c.Hist.Pos.Offset, bH, vi c.Hist.Neg.Offset, bI, vi c.Flags], vi a1]) kok20 z z (c_tocum_Next (A := fun _ => True) (a0 := (api_State.mk aL aM aN aO aP aQ (api_Hist.mk aR aS (api_Side.mk aT bU) (api_Side.mk aU bW)))) (a1 := c) (Sl.all f6) (Sl.all f8) (Sl.all f9) (Sl.all ga) (Sl.all gb) gc) ?_
       rintro l0 bD ⟨dg, dh, di, dj, dk, rfl, gd, kA, kB, kC, kD, kE⟩
       obtain ⟨bK, ln, aZ, b2⟩ := adoptE df (fun k => 1) gd
       have ge : Sl Rep.u bD (frs bK) dg ah.Hist.Pos.Counts := Sl.adoptF kA (fun k hk => ⟨hk, z⟩) aZ
       have gf : Sl Rep.u bD (frs bK) dh ah.Hist.Neg.Counts := Sl.adoptF kB (fun k hk => ⟨hk, z⟩) aZ
       have gg : Sl rep_api_Pair bD (frs bK) di J.Attrs := Sl.adoptF kC (fun k hk => ⟨hk, z⟩) aZ
       have gh : Sl Rep.u bD (frs bK) dj J.Hist.Pos.Counts := Sl.adoptF kD (fun k hk => ⟨hk, z⟩) aZ
       have gi : Sl Rep.u bD (frs bK) dk J.Hist.Neg.Counts := Sl.adoptF kE (fun k hk => ⟨hk, z⟩) aZ
       refine nl (At.dq (su_ b2 z) (WD.y 7 z (by kernel_rfl) (fun _ _ _ => ym z) z (WD.y 8 z (by kernel_rfl) (fun _ _ _ => yx z z) z (WD.y 9 z (by kernel_rfl) (fun _ _ _ => yx z z) z (WD.y 10 z (by kernel_rfl) (fun _ _ _ => yx z z) z (WD.heavy 11 z (by kernel_rfl) (WL.alloc (O := bK) 20 [vB false, vi 0, vi 0, vi 0, vu 0, vu 0, vi 0, vu 0, vi 0, Value.slice none 0 0, vi 0, Value.slice none 0 0] ty32 z z ?_)))))))
       intro kF mq l1 az gj
       refine nl (At.dq (su_ az z) ?_)
       obtain ⟨mr, aA, gk⟩ := Blk.rlb 1001 rfl gj
       have gl := cG.st b2 z
       have gm := gl.st az z
       have gn := gm.st aA z
       obtain ⟨kG, aC, gp⟩ := Blk.rlb 1002 rfl gn
       have gq := gk.st aC z
       have gr := ge.f az z
       have gs := gr.f aA z
       have gt := gs.f aC z
       have gu := gf.f az z
       have gw := gu.f aA z
       have gz := gw.f aC z
       have gB := gg.f az z
       have gC := gB.f aA z
       have gE := gC.f aC z
       have gG := gh.f az z
       have gH := gG.f aA z
       have gI := gH.f aC z
       have gJ := gi.f az z
       have gK := gJ.f aA z
       have gL := gK.f aC z
       refine WD.own (tr_ (su_ aA z) (su_ aC z)) (WD.perm _ [12, 11, 10, 9, 8, 7, 6, 5, 4, 3, 2, 1, 0] (by kernel_rfl) ?_)
       exact bg (ah.Some, ah.Start, ah.Time, ah.Int_, ah.Re, ah.Im, ah.Hist.Scale, ah.Hist.Zero, ah.Hist.Pos.Offset, ah.Hist.Pos.Counts, ah.Hist.Neg.Offset, ah.Hist.Neg.Counts, J.Name, J.Attrs, J.Kind, J.Temp, J.Mono, J.Start, J.Time, J.Int_, J.Re, J.Im, J.Hist.Scale, J.Hist.Zero, J.Hist.Pos.Offset, J.Hist.Pos.Counts, J.Hist.Neg.Offset, J.Hist.Neg.Counts, J.Flags, kz, kG, kF, de, dg, dh, di, dj, dk) _ _ _ ⟨h, (tr_ (su_ I z) (tr_ (su_ b2 z) (tr_ (su_ az z) (tr_ (su_ aA z) (su_ aC z))))), gq, gp, gt, gz, gE, gI, gL, z⟩ (.cons z (.cons z (.cons z (.cons z (.cons z (.cons z (.cons z (.cons z (.cons z (.cons z (.cons z .nil)))))))))))
      ·refine WL.alloc (O := df) 21 [vB false, vi 0, vi 0, vi 0, vu 0, vu 0, vi 0, vu 0, vi 0, Value.slice none 0 0, vi 0, Value.slice none 0 0] ty32 z z ?_
       intro kH kI l2 aD gM
       refine nl (At.dq (su_ aD z) (WD.heavy 6 z (by kernel_rfl) ?_))
       have gO := bh.f e z
       have gP := gO.f I z
       have gQ := gP.f aD z
       have gR := bi.f e z
       have gU := gR.f I z
       have gV := gU.f aD z
       have gW := bu.i I z z
       have gX := gW.i aD z z
       have gY := bw.i I z z
       have gZ := gY.i aD z z
       have g0 := bx.i I z z
       have g1 := g0.i aD z z
       obtain ⟨⟨ai, K, kJ⟩, g2, h⟩ := bnd h
       refine WL.call (vals := [ag [vB aL, vi aM, vi aN, vi aO, vu aP, vu aQ, vi aR, vu aS, vi aT, bX, vi aU, bY], ag [vs c.Name, bG, vi c.Kind, vi c.Temp, vB c.Mono, vi c.Start, vi c.Time, vi c.Int_, vu c.Re, vu c.Im, vi c.Hist.Scale, vu c.Hist.Zero, vi c.Hist.Pos.Offset, bH, vi c.Hist.Neg.Offset, bI, vi c.Flags], vi a1]) kok20 z z (c_tocum_Next (A := fun _ => True) (a0 := (api_State.mk aL aM aN aO aP aQ (api_Hist.mk aR aS (api_Side.mk aT bU) (api_Side.mk aU bW)))) (a1 := c) (Sl.all gQ) (Sl.all gV) (Sl.all gX) (Sl.all gZ) (Sl.all g1) g2) ?_
       rintro l3 bE ⟨dl, dm, dn, dp, dr, rfl, g3, kK, kL, kM, kN, kO⟩
       obtain ⟨b3, lo, a2, bF⟩ := adoptE kI (fun k => 1) g3
       have g4 : Sl Rep.u bE (frs b3) dl ai.Hist.Pos.Counts := Sl.adoptF kK (fun k hk => ⟨hk, z⟩) a2
       have g5 : Sl Rep.u bE (frs b3) dm ai.Hist.Neg.Counts := Sl.adoptF kL (fun k hk => ⟨hk, z⟩) a2
       have g6 : Sl rep_api_Pair bE (frs b3) dn K.Attrs := Sl.adoptF kM (fun k hk => ⟨hk, z⟩) a2
       have g7 : Sl Rep.u bE (frs b3) dp K.Hist.Pos.Counts := Sl.adoptF kN (fun k hk => ⟨hk, z⟩) a2
       have g8 : Sl Rep.u bE (frs b3) dr K.Hist.Neg.Counts := Sl.adoptF kO (fun k hk => ⟨hk, z⟩) a2
       refine nl (At.dq (su_ bF z) (WD.y 7 z (by kernel_rfl) (fun _ _ _ => ym z) z (WD.y 8 z (by kernel_rfl) (fun _ _ _ => yx z z) z (WD.y 9 z (by kernel_rfl) (fun _ _ _ => yx z z) z (WD.y 10 z (by kernel_rfl) (fun _ _ _ => yx z z) z ?_)))))
       have g9 := gM.st bF z
       obtain ⟨ms, aE, ha⟩ := Blk.rlb 1001 rfl g9
       have hc := cG.st aD z
       have hd := hc.st bF z
       have he := hd.st aE z
       obtain ⟨kP, aF, hf⟩ := Blk.rlb 1002 rfl he
       have hg := ha.st aF z
       have hh := g4.f aE z
       have hi := hh.f aF z
       have hj := g5.f aE z
       have hl := hj.f aF z
       have hm := g6.f aE z
       have hn := hm.f aF z
       have ho := g7.f aE z
       have hp := ho.f aF z
       have hq := g8.f aE z
       have hr := hq.f aF z
       refine WD.own (tr_ (su_ aE z) (su_ aF z)) (WD.perm _ [12, 11, 10, 9, 8, 7, 6, 5, 4, 3, 2, 1, 0] (by kernel_rfl) ?_)
       exact bg (ai.Some, ai.Start, ai.Time, ai.Int_, ai.Re, ai.Im, ai.Hist.Scale, ai.Hist.Zero, ai.Hist.Pos.Offset, ai.Hist.Pos.Counts, ai.Hist.Neg.Offset, ai.Hist.Neg.Counts, K.Name, K.Attrs, K.Kind, K.Temp, K.Mono, K.Start, K.Time, K.Int_, K.Re, K.Im, K.Hist.Scale, K.Hist.Zero, K.Hist.Pos.Offset, K.Hist.Pos.Counts, K.Hist.Neg.Offset, K.Hist.Neg.Counts, K.Flags, kJ, kP, kH, de, dl, dm, dn, dp, dr) _ _ _ ⟨h, (tr_ (su_ I z) (tr_ (su_ aD z) (tr_ (su_ bF z) (tr_ (su_ aE z) (su_ aF z))))), hg, hf, hi, hl, hn, hp, hr, z⟩ (.cons z (.cons z (.cons z (.cons z (.cons z (.cons z (.cons z (.cons z (.cons z (.cons z (.cons z .nil)))))))))))
    ·rintro ⟨bk, bl, bm, bn, bo, bp, bq, br, bs, kQ, bt, kR, a4, kS, aJ, aG, ak, aj, ad, ab, Z, Q, L, p, n, kT, o, kU, M, kV, kW, kX, kY, kZ, k0, k1, k2, k3⟩ _ l4 ⟨h, P, cH, cI, ce, cf, cJ, cK, cL, rfl⟩
     replace h := h.trans (congrArg some dM.symm)
     unfold law16_play_k2 at h
     try dsimp only at h P cH cI ce cf cJ cK cL
     refine (show WD _ _ _ _ _ _ _ _ [(0, v0), (1, vi a1), (6, cj), (7, ck), (8, pt bS 0), (9, vi b7), (10, pt kX 0), (11, pt kY 0), (28, ag [vB bk, vi bl, vi bm, vi bn, vu bo, vu bp, vi bq, vu br, vi bs, kZ, vi bt, k0]), (29, ag [vs a4, k1, vi aJ, vi aG, vB ak, vi aj, vi ad, vi ab, vu Z, vu Q, vi L, vu p, vi n, k2, vi o, k3, vi M]), (30, vi kV)] _ _ from ?_)
     refine WD.heavy 13 z (by kernel_rfl) ?_
     have hs := h
     obtain ⟨bL, bM, bO, rfl⟩ := ce.shape
     have h := hs
     have ht := h
     obtain ⟨bP, bQ, bR, rfl⟩ := cf.shape
     have h := ht
     refine WL.store (v := ag [vB bk, vi bl, vi bm, vi bn, vu bo, vu bp, vi bq, vu br, vi bs, (Value.slice bL bM bO), vi bt, (Value.slice bP bQ bR)]) (cells' := [vB bk, vi bl, vi bm, vi bn, vu bo, vu bp, vi bq, vu br, vi bs, (Value.slice bL bM bO), vi bt, (Value.slice bP bQ bR)]) ty32 z z cH z (le_ z) z z ?_
     intro l5 j hu
     refine nl (At.dq (su_ j z) (WD.heavy 14 z (by kernel_rfl) ?_))
     have cM := cJ.f j z
     have hv := h
     obtain ⟨a5, a6, a7, rfl⟩ := cM.shape
     have h := hv
     have cN := cK.f j z
     have hw := h
     obtain ⟨q, r, t, rfl⟩ := cN.shape
     have h := hw
     have cO := cL.f j z
     have hx := h
     obtain ⟨C, D, E, rfl⟩ := cO.shape
     have h := hx
     have hy := cI.st j z
     refine WL.store (v := ag [vs a4, (Value.slice a5 a6 a7), vi aJ, vi aG, vB ak, vi aj, vi ad, vi ab, vu Z, vu Q, vi L, vu p, vi n, (Value.slice q r t), vi o, (Value.slice C D E), vi M]) (cells' := [vs a4, (Value.slice a5 a6 a7), vi aJ, vi aG, vB ak, vi aj, vi ad, vi ab, vu Z, vu Q, vi L, vu p, vi n, (Value.slice q r t), vi o, (Value.slice C D E), vi M]) ty37 z z hy z (le_ z) z z ?_
     intro l6 l hz
     refine nl (At.dq (su_ l z) (WD.y 15 z (by kernel_rfl) (fun _ _ _ => ya z) z (WD.done_ (by kernel_rfl) (th (sq (rg (wY (ym z) z (wY (Y.eql_i z z) z (nl ?_)))))))))
     refine th ?_
     rcases cnd h with ⟨cg, h⟩ | ⟨cg, h⟩
     ·refine WC.condT' z cg (sq (rg (wY (ym z) z (wY (ym z) z (wY (ym z) z ?_)))))
      obtain ⟨a, hA, h⟩ := bnd h
      have hC := cy.i P z z
      have hD := hC.i j z z
      have hE := hD.i l z z
      obtain ⟨mt, lw, lx, l7, hF, hG, hH, ch, ds, hI⟩ := Sl.at2 hE hA
      obtain ⟨_, _, rfl, rfl, ⟨_, _, rfl, ⟨k4, rfl, cP⟩, ⟨_, _, rfl, rfl, ⟨_, _, rfl, rfl, ⟨_, _, rfl, rfl, ⟨_, _, rfl, rfl, ⟨_, _, rfl, rfl, ⟨_, _, rfl, rfl, ⟨_, _, rfl, rfl, ⟨_, _, rfl, rfl, ⟨_, _, rfl, ⟨_, _, rfl, rfl, ⟨_, _, rfl, rfl, ⟨_, _, rfl, ⟨_, _, rfl, rfl, ⟨k5, rfl, cQ⟩⟩, ⟨_, _, rfl, rfl, ⟨k6, rfl, cR⟩⟩⟩⟩⟩, rfl⟩⟩⟩⟩⟩⟩⟩⟩⟩⟩⟩ := ds
      replace ch : CellsAt _ _ _ [vs a.Name, k4, vi a.Kind, vi a.Temp, vB a.Mono, vi a.Start, vi a.Time, vi a.Int_, vu a.Re, vu a.Im, vi a.Hist.Scale, vu a.Hist.Zero, vi a.Hist.Pos.Offset, k5, vi a.Hist.Neg.Offset, k6, vi a.Flags] := ch
      have dt := CAt.imm ch hI
      refine wY (Y.indexAddr ty22 ty37 z hF z hG hH) z (wY (yL ty37 z z dt.at_ z) z ?_)
      have hJ := h
      obtain ⟨b4, b5, b6, rfl⟩ := cP.shape
      have h := hJ
      have hK := h
      obtain ⟨S, T, U, rfl⟩ := cQ.shape
      have h := hK
      have hL := h
      obtain ⟨V, W, X, rfl⟩ := cR.shape
      have h := hL
      refine WL.buildSlice (O := kW) (R := rep_api_Point) (vals := [(0, ag [vs a.Name, (Value.slice b4 b5 b6), vi a.Kind, vi a.Temp, vB a.Mono, vi a.Start, vi a.Time, vi a.Int_, vu a.Re, vu a.Im, vi a.Hist.Scale, vu a.Hist.Zero, vi a.Hist.Pos.Offset, (Value.slice S T U), vi a.Hist.Neg.Offset, (Value.slice V W X), vi a.Flags])]) 22 [vs a.Name, (Value.slice b4 b5 b6), vi a.Kind, vi a.Temp, vB a.Mono, vi a.Start, vi a.Time, vi a.Int_, vu a.Re, vu a.Im, vi a.Hist.Scale, vu a.Hist.Zero, vi a.Hist.Pos.Offset, (Value.slice S T U), vi a.Hist.Neg.Offset, (Value.slice V W X), vi a.Flags] (xs := [a]) (by decide) ty22 ty37 (by decide) (by decide) (fe_ z) (by kernel_rfl) z ⟨[vs a.Name, (Value.slice b4 b5 b6), vi a.Kind, vi a.Temp, vB a.Mono, vi a.Start, vi a.Time, vi a.Int_, vu a.Re, vu a.Im, vi a.Hist.Scale, vu a.Hist.Zero, vi a.Hist.Pos.Offset, (Value.slice S T U), vi a.Hist.Neg.Offset, (Value.slice V W X), vi a.Flags], [], z, ⟨[vs a.Name], [(Value.slice b4 b5 b6), vi a.Kind, vi a.Temp, vB a.Mono, vi a.Start, vi a.Time, vi a.Int_, vu a.Re, vu a.Im, vi a.Hist.Scale, vu a.Hist.Zero, vi a.Hist.Pos.Offset, (Value.slice S T U), vi a.Hist.Neg.Offset, (Value.slice V W X), vi a.Flags], z, z, ⟨[(Value.slice b4 b5 b6)], [vi a.Kind, vi a.Temp, vB a.Mono, vi a.Start, vi a.Time, vi a.Int_, vu a.Re, vu a.Im, vi a.Hist.Scale, vu a.Hist.Zero, vi a.Hist.Pos.Offset, (Value.slice S T U), vi a.Hist.Neg.Offset, (Value.slice V W X), vi a.Flags], z, ⟨_, z, cP⟩, ⟨[vi a.Kind], [vi a.Temp, vB a.Mono, vi a.Start, vi a.Time, vi a.Int_, vu a.Re, vu a.Im, vi a.Hist.Scale, vu a.Hist.Zero, vi a.Hist.Pos.Offset, (Value.slice S T U), vi a.Hist.Neg.Offset, (Value.slice V W X), vi a.Flags], z, z, ⟨[vi a.Temp], [vB a.Mono, vi a.Start, vi a.Time, vi a.Int_, vu a.Re, vu a.Im, vi a.Hist.Scale, vu a.Hist.Zero, vi a.Hist.Pos.Offset, (Value.slice S T U), vi a.Hist.Neg.Offset, (Value.slice V W X), vi a.Flags], z, z, ⟨[vB a.Mono], [vi a.Start, vi a.Time, vi a.Int_, vu a.Re, vu a.Im, vi a.Hist.Scale, vu a.Hist.Zero, vi a.Hist.Pos.Offset, (Value.slice S T U), vi a.Hist.Neg.Offset, (Value.slice V W X), vi a.Flags], z, z, ⟨[vi a.Start], [vi a.Time, vi a.Int_, vu a.Re, vu a.Im, vi a.Hist.Scale, vu a.Hist.Zero, vi a.Hist.Pos.Offset, (Value.slice S T U), vi a.Hist.Neg.Offset, (Value.slice V W X), vi a.Flags], z, z, ⟨[vi a.Time], [vi a.Int_, vu a.Re, vu a.Im, vi a.Hist.Scale, vu a.Hist.Zero, vi a.Hist.Pos.Offset, (Value.slice S T U), vi a.Hist.Neg.Offset, (Value.slice V W X), vi a.Flags], z, z, ⟨[vi a.Int_], [vu a.Re, vu a.Im, vi a.Hist.Scale, vu a.Hist.Zero, vi a.Hist.Pos.Offset, (Value.slice S T U), vi a.Hist.Neg.Offset, (Value.slice V W X), vi a.Flags], z, z, ⟨[vu a.Re], [vu a.Im, vi a.Hist.Scale, vu a.Hist.Zero, vi a.Hist.Pos.Offset, (Value.slice S T U), vi a.Hist.Neg.Offset, (Value.slice V W X), vi a.Flags], z, z, ⟨[vu a.Im], [vi a.Hist.Scale, vu a.Hist.Zero, vi a.Hist.Pos.Offset, (Value.slice S T U), vi a.Hist.Neg.Offset, (Value.slice V W X), vi a.Flags], z, z, ⟨[vi a.Hist.Scale, vu a.Hist.Zero, vi a.Hist.Pos.Offset, (Value.slice S T U), vi a.Hist.Neg.Offset, (Value.slice V W X)], [vi a.Flags], z, ⟨[vi a.Hist.Scale], [vu a.Hist.Zero, vi a.Hist.Pos.Offset, (Value.slice S T U), vi a.Hist.Neg.Offset, (Value.slice V W X)], z, z, ⟨[vu a.Hist.Zero], [vi a.Hist.Pos.Offset, (Value.slice S T U), vi a.Hist.Neg.Offset, (Value.slice V W X)], z, z, ⟨[vi a.Hist.Pos.Offset, (Value.slice S T U)], [vi a.Hist.Neg.Offset, (Value.slice V W X)], z, ⟨[vi a.Hist.Pos.Offset], [(Value.slice S T U)], z, z, ⟨_, z, cQ⟩⟩, ⟨[vi a.Hist.Neg.Offset], [(Value.slice V W X)], z, z, ⟨_, z, cR⟩⟩⟩⟩⟩, z⟩⟩⟩⟩⟩⟩⟩⟩⟩⟩⟩, z⟩ z ?_
      intro mu mv l8 aa hM
      obtain ⟨hN, du, h⟩ := bnd h
      have hO := ca.st e z z z
      have hP := hO.st P z z z
      have hQ := hP.st j z z z
      have hR := hQ.st l z z z
      have hS := hR.st aa z z z
      refine WL.append (by decide) ty22 ty37 z (by decide) z z hS hM.src du z ?_
      intro k7 k8 l9 ac hT
      refine wY (ya z) z (nl (th (sq (rg (wY (ym z) z ?_)))))
      have hU := hz.st aa z
      have hV := hU.st ac z
      refine wY (yL ty37 z z (hV.cells 0 [vs a4, (Value.slice a5 a6 a7), vi aJ, vi aG, vB ak, vi aj, vi ad, vi ab, vu Z, vu Q, vi L, vu p, vi n, (Value.slice q r t), vi o, (Value.slice C D E), vi M] z) z) z ?_
      have hW := cM.f l z
      have hX := hW.f aa z
      have hY := hX.f ac z
      have hZ := cN.f l z
      have h0 := hZ.f aa z
      have h1 := h0.f ac z
      have h2 := cO.f l z
      have h3 := h2.f aa z
      have h4 := h3.f ac z
      refine WL.buildSlice (O := k8) (R := rep_api_Point) (vals := [(0, ag [vs a4, (Value.slice a5 a6 a7), vi aJ, vi aG, vB ak, vi aj, vi ad, vi ab, vu Z, vu Q, vi L, vu p, vi n, (Value.slice q r t), vi o, (Value.slice C D E), vi M])]) 23 [vs a4, (Value.slice a5 a6 a7), vi aJ, vi aG, vB ak, vi aj, vi ad, vi ab, vu Z, vu Q, vi L, vu p, vi n, (Value.slice q r t), vi o, (Value.slice C D E), vi M] (xs := [(api_Point.mk a4 kS aJ aG ak aj ad ab Z Q (api_Hist.mk L p (api_Side.mk n kT) (api_Side.mk o kU)) M)]) (by decide) ty22 ty37 (by decide) (by decide) (fe_ z) (by kernel_rfl) z ⟨[vs a4, (Value.slice a5 a6 a7), vi aJ, vi aG, vB ak, vi aj, vi ad, vi ab, vu Z, vu Q, vi L, vu p, vi n, (Value.slice q r t), vi o, (Value.slice C D E), vi M], [], z, ⟨[vs a4], [(Value.slice a5 a6 a7), vi aJ, vi aG, vB ak, vi aj, vi ad, vi ab, vu Z, vu Q, vi L, vu p, vi n, (Value.slice q r t), vi o, (Value.slice C D E), vi M], z, z, ⟨[(Value.slice a5 a6 a7)], [vi aJ, vi aG, vB ak, vi aj, vi ad, vi ab, vu Z, vu Q, vi L, vu p, vi n, (Value.slice q r t), vi o, (Value.slice C D E), vi M], z, ⟨_, z, (Sl.mono hY frs_imm)⟩, ⟨[vi aJ], [vi aG, vB ak, vi aj, vi ad, vi ab, vu Z, vu Q, vi L, vu p, vi n, (Value.slice q r t), vi o, (Value.slice C D E), vi M], z, z, ⟨[vi aG], [vB ak, vi aj, vi ad, vi ab, vu Z, vu Q, vi L, vu p, vi n, (Value.slice q r t), vi o, (Value.slice C D E), vi M], z, z, ⟨[vB ak], [vi aj, vi ad, vi ab, vu Z, vu Q, vi L, vu p, vi n, (Value.slice q r t), vi o, (Value.slice C D E), vi M], z, z, ⟨[vi aj], [vi ad, vi ab, vu Z, vu Q, vi L, vu p, vi n, (Value.slice q r t), vi o, (Value.slice C D E), vi M], z, z, ⟨[vi ad], [vi ab, vu Z, vu Q, vi L, vu p, vi n, (Value.slice q r t), vi o, (Value.slice C D E), vi M], z, z, ⟨[vi ab], [vu Z, vu Q, vi L, vu p, vi n, (Value.slice q r t), vi o, (Value.slice C D E), vi M], z, z, ⟨[vu Z], [vu Q, vi L, vu p, vi n, (Value.slice q r t), vi o, (Value.slice C D E), vi M], z, z, ⟨[vu Q], [vi L, vu p, vi n, (Value.slice q r t), vi o, (Value.slice C D E), vi M], z, z, ⟨[vi L, vu p, vi n, (Value.slice q r t), vi o, (Value.slice C D E)], [vi M], z, ⟨[vi L], [vu p, vi n, (Value.slice q r t), vi o, (Value.slice C D E)], z, z, ⟨[vu p], [vi n, (Value.slice q r t), vi o, (Value.slice C D E)], z, z, ⟨[vi n, (Value.slice q r t)], [vi o, (Value.slice C D E)], z, ⟨[vi n], [(Value.slice q r t)], z, z, ⟨_, z, (Sl.mono h1 frs_imm)⟩⟩, ⟨[vi o], [(Value.slice C D E)], z, z, ⟨_, z, (Sl.mono h4 frs_imm)⟩⟩⟩⟩⟩, z⟩⟩⟩⟩⟩⟩⟩⟩⟩⟩⟩, z⟩ z ?_
      intro mw mx ma aK h5
      obtain ⟨h6, dw, h⟩ := bnd h
      have h7 := cb.st e z z z
      have h8 := h7.st P z z z
      have h9 := h8.st j z z z
      have ia := h9.st l z z z
      have ib := ia.st aa z z z
      have ic := ib.st ac z z z
      have ie := ic.st aK z z z
      refine WL.append (by decide) ty22 ty37 z (by decide) z z ie h5.src dw z ?_
      intro k9 my mb a3 ig
      refine wY (ya z) z (nl (th (rg ?_)))
      have ih := hu.st l z
      have ii := ih.st aa z
      have ij := ii.st ac z
      have ik := ij.st aK z
      have il := ik.st a3 z
      refine wY (yL ty32 z z (il.cells 0 [vB bk, vi bl, vi bm, vi bn, vu bo, vu bp, vi bq, vu br, vi bs, (Value.slice bL bM bO), vi bt, (Value.slice bP bQ bR)] z) z) z ?_
      have im := cc.st e z
      have io := im.st P z
      have ip := io.st j z
      have iq := ip.st l z
      have ir := iq.st aa z
      have it := ir.st ac z
      have iu := it.st aK z
      have iv := iu.st a3 z
      refine WL.store (v := ag [vB bk, vi bl, vi bm, vi bn, vu bo, vu bp, vi bq, vu br, vi bs, (Value.slice bL bM bO), vi bt, (Value.slice bP bQ bR)]) (cells' := [vB bk, vi bl, vi bm, vi bn, vu bo, vu bp, vi bq, vu br, vi bs, (Value.slice bL bM bO), vi bt, (Value.slice bP bQ bR)]) ty32 z z iv z (le_ z) z z ?_
      intro mc a8 iw
      refine nl (At.inBlock ?_)
      have ix := hT.st aK z z z
      have iy := ix.st a3 z z z
      have iz := iy.st a8 z z z
      obtain ⟨mz, a9, iA⟩ := OwnSl.rlb 1005 rfl iz
      have iB := ig.st a8 z z z
      have iC := iB.st a9 z z z
      obtain ⟨la, ba, iD⟩ := OwnSl.rlb 1006 rfl iC
      have iE := iA.st ba z z z
      have iF := ce.f j z
      have iG := iF.f l z
      have iH := iG.f aa z
      have iI := iH.f ac z
      have iJ := iI.f aK z
      have iK := iJ.f a3 z
      have iL := iK.f a8 z
      have iM := iL.f a9 z
      have iN := iM.f ba z
      have iO := cf.f j z
      have iP := iO.f l z
      have iQ := iP.f aa z
      have iR := iQ.f ac z
      have iS := iR.f aK z
      have iT := iS.f a3 z
      have iU := iT.f a8 z
      have iV := iU.f a9 z
      have iW := iV.f ba z
      have iX := iw.st a9 z
      have iY := iX.st ba z
      exact At.join (σ := (List api_Point × List api_Point × Bool × Int × Int × Int × UInt64 × UInt64 × Int × UInt64 × Int × List UInt64 × Int × List UInt64 × Own × Value × Value × Value × Value)) (hN, h6, bk, bl, bm, bn, bo, bp, bq, br, bs, kQ, bt, kR, la, k7, k9, (Value.slice bL bM bO), (Value.slice bP bQ bR)) ⟨some1 h, (tr_ (su_ e z) (tr_ (su_ P z) (tr_ (su_ j z) (tr_ (su_ l z) (tr_ (su_ aa z) (tr_ (su_ ac z) (tr_ (su_ aK z) (tr_ (su_ a3 z) (tr_ (su_ a8 z) (tr_ (su_ a9 z) (su_ ba z))))))))))), iE, iD, iN, iW, iY⟩ (.cons z (.cons z (.cons z (.cons z (.cons z (.cons z .nil))))))
     ·refine WC.condF' z cg (sk (At.inBlock ?_))
      have iZ := ca.st e z z z
      have i0 := iZ.st P z z z
      have i1 := i0.st j z z z
      have i2 := i1.st l z z z
      obtain ⟨mA, bb, i3⟩ := OwnSl.rlb 1005 rfl i2
      have i4 := cb.st e z z z
      have i5 := i4.st P z z z
      have i6 := i5.st j z z z
      have i7 := i6.st l z z z
      have i8 := i7.st bb z z z
      obtain ⟨lb, bc, i9⟩ := OwnSl.rlb 1006 rfl i8
      have ja := i3.st bc z z z
      have jb := bh.f e z
      have jc := jb.f P z
      have jd := jc.f j z
      have je := jd.f l z
      have jf := je.f bb z
      have jg := jf.f bc z
      have jh := bi.f e z
      have ji := jh.f P z
      have jj := ji.f j z
      have jk := jj.f l z
      have jl := jk.f bb z
      have jm := jl.f bc z
      have jn := cc.st e z
      have jo := jn.st P z
      have jp := jo.st j z
      have jq := jp.st l z
      have jr := jq.st bb z
      have js := jr.st bc z
      exact At.join (σ := (List api_Point × List api_Point × Bool × Int × Int × Int × UInt64 × UInt64 × Int × UInt64 × Int × List UInt64 × Int × List UInt64 × Own × Value × Value × Value × Value)) (cp, b9, aL, aM, aN, aO, aP, aQ, aR, aS, aT, bU, aU, bW, lb, cj, ck, bX, bY) ⟨some1 h, (tr_ (su_ e z) (tr_ (su_ P z) (tr_ (su_ j z) (tr_ (su_ l z) (tr_ (su_ bb z) (su_ bc z)))))), ja, i9, jg, jm, js⟩ (.cons z (.cons z (.cons z (.cons z (.cons z (.cons z .nil))))))
   ·rintro ⟨lc, jt, ly, lA, lB, lC, lD, lE, lF, lG, lH, lI, lJ, lK, mI, jP, jQ, lL, lM⟩ mB ⟨rfl, cS, dx, dy, dz, dA, dB⟩
    replace h := j0
    try dsimp only at h cS dx dy dz dA dB
    refine (show At _ _ _ [(0, v0), (1, vi a1), (6, jP), (7, jQ), (8, pt bS 0), (9, vi b7)] _ from ?_)
    refine th (rg (wY (ym z) z (wY (Y.add_i z z) z ?_)))
    obtain ⟨ld, ju, h⟩ := lt1 h
    refine WL.yE (ya z) (congrArg vi ju.symm) z (nl ?_)
    obtain ⟨mC, bd, jv⟩ := OwnSl.rlb 1009 rfl dx
    have jw := dy.st bd z z z
    obtain ⟨lf, bf, jx⟩ := OwnSl.rlb 1010 rfl jw
    have jy := jv.st bf z z z
    have jz := dz.f bd z
    have jA := jz.f bf z
    have jB := dA.f bd z
    have jC := jB.f bf z
    have jD := dB.st bd z
    have jE := jD.st bf z
    exact At.round (lc, jt, ly, lA, lB, lC, lD, lE, lF, lG, lH, lI, lJ, lK, ld, lf, jP, jQ, lL, lM) lr (Nat.lt_succ_self _) ⟨next1 h cW, (tr_ (su_ bT z) (tr_ (su_ cS z) (tr_ (su_ bd z) (su_ bf z)))), jy, jx, jA, jC, jE⟩ (.cons z (.cons z (.cons z (.cons z (.cons z (.cons z .nil))))))
  ·refine WC.condF' z cq (WC.exit (At.thenX (At.loopX ?_)))
   obtain ⟨mD, cl, jF⟩ := OwnSl.rlb 1017 rfl ca
   have jG := cb.st cl z z z
   obtain ⟨lg, cm, jH⟩ := OwnSl.rlb 1018 rfl jG
   have jI := jF.st cm z z z
   exact At.hitB (σ := (List api_Point × List api_Point × Own × Value × Value)) (cp, b9, lg, cj, ck) ⟨brk1 h cW, (tr_ (su_ bT z) (tr_ (su_ cl z) (su_ cm z))), jI, jH⟩ (.cons z (.cons z .nil))
 ·rintro ⟨mE, md, mJ, jR, jS⟩ lh ⟨rfl, cT, dC, dD⟩
  replace h := flowK_go jW
  try dsimp only at h cT dC dD
  refine (show At _ _ _ [(6, jR), (7, jS)] _ from ?_)
  refine At.inBlockHit (th (sq (rg (wY (ym z) z (wY (ym z) z (wY (ya z) z (wY (ya z) z (nl (th ?_)))))))))
  refine rt ?_
  obtain ⟨rfl, rfl⟩ := tup2 h
  obtain ⟨mF, cn, jJ⟩ := OwnSl.give rfl dC
  have jK := dD.st cn z z z
  obtain ⟨li, co, jL⟩ := OwnSl.give rfl jK
  have ci : Stp [11, 12, 13, 14, 15, 16, 17, 18, 19, 20, 21, 23, 25, 1001, 1002, 1005, 1006, 1009, 1010, 1017, 1018] (Lg.O0 A) w li lh := (tr_ (su_ cw z) (tr_ (su_ cx z) (tr_ (su_ cT z) (tr_ (su_ cn z) (su_ co z)))))
  have jM := jJ.i co z z
  exact At.res (.inl z) z (.tmp z (.tmp z .nil)) ⟨jR, jS, z, (se_ ci z z), (Sl.outI jM ci low0 O0_A), (Sl.outI jL ci low0 O0_A)⟩
theorem c_law16_TocumSums {A : Nat → Prop} {a0 : List api_Point} {v0 : Value} {a1 : Int} {w : World} (hs0 : Sl rep_api_Point w A v0 a0) {r0 : Bool} (h : law16_TocumSums a0 a1 = some r0) : Rets Try.prog 8 [v0, vi a1] w (fun v w' => v = vB r0 ∧ Ext w w') := by
 unfold law16_TocumSums at h
 refine Rets.enter Try.func8 z z ?_
 have gr : Sl rep_api_Point w (imm (Lg.O0 A)) v0 a0 := (Sl.start hs0)
 refine (show WC _ _ _ _ [(0, v0), (1, vi a1)] _ from ?_)
 refine sq (rg (wY (ya z) z (nl (th (sq (sq (rg ?_)))))))
 obtain ⟨kN, gs, h⟩ := bnd h
 refine WL.call (vals := []) kok16 z z (c_law16_awake gs) ?_
 rintro kf gt ⟨rfl, gu⟩
 obtain ⟨gp, iB, iC, U⟩ := adoptE (Lg.O0 A) (fun k => 1) gu
 refine wY (Y.not z) z (nl (th ?_))
 rcases cnd h with ⟨bM, h⟩ | ⟨bM, h⟩
 ·refine WC.condT' z bM (sq (rg (wY (ya z) z (nl (th (rt (At.thenR ?_)))))))
  obtain rfl := some1 h
  have gw : Stp [] (Lg.O0 A) w gp gt := (su_ U z)
  exact At.res (.inl z) z (.tmp z .nil) ⟨z, (se_ gw z z)⟩
 ·refine WC.condF' z bM (sk (th (sq (sq (rg (wY (ym z) z ?_))))))
  have aS := gr.i U z z
  obtain ⟨cc, gz, h⟩ := bnd h
  refine WL.call (vals := [v0]) kok29 z z (c_law16_one (A := fun _ => True) (Sl.all aS) gz) ?_
  rintro kg aT ⟨rfl, gB⟩
  obtain ⟨bA, iD, iE, P⟩ := adoptE gp (fun k => 1) gB
  refine wY (Y.not z) z (wY (ym z) z ?_)
  refine WL.cut 4 (σ := Unit) (fun _ w' => aT = w') (fun _ => [(0, v0), (1, vi a1), (23, vB ((!cc) || (decide ((a0.length : Int) = 0))))]) ?_ ?_
  ·refine WL.part 19 z (fun bO => ?_) (fun bO => ?_)
   ·refine WL.gS z z z z (WL.gS z z z z (WL.gS z z z z (wY (Y.pick (b := true) z z) z (WL.ren (v' := vB ((!cc) || (decide ((a0.length : Int) = 0)))) 23 z (congrArg vB (orT bO)) ?_))))
    exact nl (At.join () z (.cons z (.cons z (.cons z .nil))))
   ·refine ug z z (wY (ym z) z (ug z z ?_))
    have gC := aS.i P z z
    refine wY (Y.len ty22 z gC) z (ug z z (wY (Y.eql_i z z) z (wY (Y.pick (b := false) z z) z (WL.ren (v' := vB ((!cc) || (decide ((a0.length : Int) = 0)))) 23 z (congrArg vB (orF bO)) ?_))))
    exact nl (At.join () z (.cons z (.cons z (.cons z .nil))))
  ·rintro _ _ rfl
   refine (show WL _ _ _ _ _ [(0, v0), (1, vi a1), (23, vB ((!cc) || (decide ((a0.length : Int) = 0))))] _ from ?_)
   refine wY (ym z) z ?_
   obtain ⟨iF, h, gE⟩ := bnd h
   refine WL.cut 13 (σ := Bool) (fun x w' => x = iF ∧ aT = w') (fun x => [(0, v0), (1, vi a1), (37, vB x)]) ?_ ?_
   ·rcases cnd h with ⟨bP, h⟩ | ⟨bP, h⟩
    ·refine WL.ren 24 z (congrArg vB bP) (WL.gS z z z z (WL.gS z z z z (WL.gS z z z z (WL.gS z z z z (WL.gS z z z z (WL.gS z z z z (WL.gS z z z z (WL.gS z z z z (WL.gS z z z z ?_)))))))))
     refine WL.gS z z z z (WL.gS z z z z (WL.gS z z z z (wY (Y.pick (b := true) z z) z ?_)))
     exact nl (At.join (σ := Bool) true ⟨some1 h, z⟩ (.cons z (.cons z (.cons z .nil))))
    ·refine WL.ren 24 z (congrArg vB bP) (ug z z (wY (ym z) z (ug z z ?_)))
     obtain ⟨Q, gG, h⟩ := bnd h
     have cF := aS.i P z z
     obtain ⟨kO, jb, jc, kh, gH, gI, gJ, bQ, dx, gK⟩ := Sl.at2 cF gG
     obtain ⟨_, _, rfl, rfl, ⟨_, _, rfl, ⟨iG, rfl, ki⟩, ⟨_, _, rfl, rfl, ⟨_, _, rfl, rfl, ⟨_, _, rfl, rfl, ⟨_, _, rfl, rfl, ⟨_, _, rfl, rfl, ⟨_, _, rfl, rfl, ⟨_, _, rfl, rfl, ⟨_, _, rfl, rfl, ⟨_, _, rfl, ⟨_, _, rfl, rfl, ⟨_, _, rfl, rfl, ⟨_, _, rfl, ⟨_, _, rfl, rfl, ⟨iH, rfl, kj⟩⟩, ⟨_, _, rfl, rfl, ⟨iI, rfl, kk⟩⟩⟩⟩⟩, rfl⟩⟩⟩⟩⟩⟩⟩⟩⟩⟩⟩ := dx
     replace bQ : CellsAt _ _ _ [vs Q.Name, iG, vi Q.Kind, vi Q.Temp, vB Q.Mono, vi Q.Start, vi Q.Time, vi Q.Int_, vu Q.Re, vu Q.Im, vi Q.Hist.Scale, vu Q.Hist.Zero, vi Q.Hist.Pos.Offset, iH, vi Q.Hist.Neg.Offset, iI, vi Q.Flags] := bQ
     have dy := CAt.imm bQ gK
     refine wY (Y.indexAddr ty22 ty37 z gH z gI gJ) z (ug z z (wY (yf fo37_2 z) z (ug z z (wY (yl ty3 z z (dy.at_.sub 2 [vi Q.Kind] z)) z (ug z z (wY (Y.neq_i z z) z (ug z z (wY (ym z) z ?_))))))))
     obtain ⟨iJ, h, gL⟩ := bnd h
     refine WL.cut 6 (σ := Bool) (fun x w' => x = iJ ∧ aT = w') (fun x => [(0, v0), (1, vi a1), (24, vB false), (36, vB x)]) ?_ ?_
     ·rcases cnd h with ⟨bR, h⟩ | ⟨bR, h⟩
      ·refine WL.ren 30 z (congrArg vB bR) (ug z z (wY (ym z) z (ug z z ?_)))
       obtain ⟨M, gM, h⟩ := bnd h
       obtain ⟨kP, jd, je, km, gO, gP, gQ, bS, dz, gR⟩ := Sl.at2 cF gM
       obtain ⟨_, _, rfl, rfl, ⟨_, _, rfl, ⟨iK, rfl, kn⟩, ⟨_, _, rfl, rfl, ⟨_, _, rfl, rfl, ⟨_, _, rfl, rfl, ⟨_, _, rfl, rfl, ⟨_, _, rfl, rfl, ⟨_, _, rfl, rfl, ⟨_, _, rfl, rfl, ⟨_, _, rfl, rfl, ⟨_, _, rfl, ⟨_, _, rfl, rfl, ⟨_, _, rfl, rfl, ⟨_, _, rfl, ⟨_, _, rfl, rfl, ⟨iL, rfl, ko⟩⟩, ⟨_, _, rfl, rfl, ⟨iM, rfl, kp⟩⟩⟩⟩⟩, rfl⟩⟩⟩⟩⟩⟩⟩⟩⟩⟩⟩ := dz
       replace bS : CellsAt _ _ _ [vs M.Name, iK, vi M.Kind, vi M.Temp, vB M.Mono, vi M.Start, vi M.Time, vi M.Int_, vu M.Re, vu M.Im, vi M.Hist.Scale, vu M.Hist.Zero, vi M.Hist.Pos.Offset, iL, vi M.Hist.Neg.Offset, iM, vi M.Flags] := bS
       have dA := CAt.imm bS gR
       refine wY (Y.indexAddr ty22 ty37 z gO z gP gQ) z (ug z z (wY (yf fo37_2 z) z (ug z z (wY (yl ty3 z z (dA.at_.sub 2 [vi M.Kind] z)) z (ug z z (wY (Y.neq_i z z) z (ug z z (wY (Y.pick (b := true) z z) z ?_))))))))
       exact nl (At.join (σ := Bool) (!decide (M.Kind = 4)) ⟨some1 h, z⟩ (.cons z (.cons z (.cons z (.cons z .nil)))))
      ·refine WL.ren 30 z (congrArg vB bR) (WL.gS z z z z (WL.gS z z z z (WL.gS z z z z (WL.gS z z z z (WL.gS z z z z (ug z z (wY (Y.pick (b := false) z z) z ?_)))))))
       exact nl (At.join (σ := Bool) false ⟨some1 h, z⟩ (.cons z (.cons z (.cons z (.cons z .nil)))))
     ·rintro gq _ ⟨rfl, rfl⟩
      replace h := gL
      try dsimp only at h
      refine (show WL _ _ _ _ _ [(0, v0), (1, vi a1), (24, vB false), (36, vB gq)] _ from ?_)
      refine wY (Y.pick (b := false) z z) z ?_
      exact nl (At.join (σ := Bool) gq ⟨some1 h, z⟩ (.cons z (.cons z (.cons z .nil))))
   ·rintro iN _ ⟨rfl, rfl⟩
    replace h := gE
    try dsimp only at h
    refine (show WL _ _ _ _ _ [(0, v0), (1, vi a1), (37, vB iN)] _ from ?_)
    refine nl (th ?_)
    rcases cnd h with ⟨bT, h⟩ | ⟨bT, h⟩
    ·refine WC.condT' z bT (sq (rg (wY (ya z) z (nl (th (rt (At.thenR ?_)))))))
     obtain rfl := some1 h
     have gU : Stp [] (Lg.O0 A) w bA aT := (tr_ (su_ U z) (su_ P z))
     exact At.res (.inl z) z (.tmp z .nil) ⟨z, (se_ gU z z)⟩
    ·refine WC.condF' z bT (sk (th (sq (rg (wY (ym z) z (wY (ym z) z ?_))))))
     have bU := aS.i P z z
     obtain ⟨⟨cG, cH⟩, gV, h⟩ := bnd h
     refine WL.call (vals := [v0, vi a1]) kok30 z z (c_law16_play (A := imm bA) bU gV) ?_
     rintro kq aU ⟨C, D, rfl, gW, iO, iP⟩
     obtain ⟨bB, bC, bD, X⟩ := adoptE bA (fun k => 1) gW
     have cI : Sl rep_api_Point aU (imm bB) C cG := Sl.adoptI (O := bA) iO (fun _ hk => hk) (fun _ _ => Nat.le_refl _) bC bD
     have gX : Sl rep_api_Point aU (imm bB) D cH := Sl.adoptI (O := bA) iP (fun _ hk => hk) (fun _ _ => Nat.le_refl _) bC bD
     refine wY (ym z) z (wY (yx z z) z (wY (yx z z) z (wY (ya z) z (wY (ya z) z (nl (th (sq (rg (wY (ya z) z ?_)))))))))
     refine nl (th (sq (sq (rg (wY (ya z) z (nl (th (WC.block ?_))))))))
     obtain ⟨cJ, h, ae⟩ := flow1 h
     obtain ⟨cK, h⟩ := loop_some h
     refine WC.joinB 0 (σ := Own) (fun x w' => cJ = .go () ∧ Stp [11, 12, 13, 1001] bB aU x w') (fun x => []) ?_ ?_
     ·refine WC.loop (σ := (Int × Int × Own)) (fun x k w' => loopN k (law16_TocumSums_lp1 a0 cG cH) (x.1, x.2.1) = some cJ ∧ Stp [11, 12, 13, 1001] bB aU x.2.2 w') (fun x => [(0, v0), (5, C), (6, D), (7, vi x.1), (8, vi x.2.1)]) (0, 0, bB) cK (.cons z (.cons z (.cons z (.cons z (.cons z .nil))))) ⟨h, (sr_ _ _ _)⟩ ?_
      rintro ⟨aO, e, bW⟩ cK cd ⟨h, m⟩
      obtain ⟨gY, kr, rfl, h, ac⟩ := rnd1 h
      unfold law16_TocumSums_lp1 at h
      try dsimp only at h m
      refine (show WC _ _ _ _ [(0, v0), (5, C), (6, D), (7, vi aO), (8, vi e)] _ from ?_)
      refine sq (sq (rg (wY (ym z) z (wY (ym z) z ?_))))
      have af := gX.i m z z
      refine wY (Y.len ty22 z af) z (wY (Y.lss_i z z) z (nl (th ?_)))
      rcases cnd h with ⟨aW, h⟩ | ⟨aW, h⟩
      ·refine WC.condT' z aW (sk (th (sq ?_)))
       obtain ⟨gZ, h, ah⟩ := flow1 h
       refine WC.join (σ := (Int × Own)) (fun x w' => gZ = .go x.1 ∧ Stp [11, 12, 13, 1001] bW cd x.2 w') (fun x => [(0, v0), (5, C), (6, D), (7, vi x.1), (8, vi e)]) ?_ ?_
       ·refine WC.block (sq ?_)
        obtain ⟨g0, h, dB⟩ := bnd h
        refine WC.join (σ := Int) (fun x w' => x = g0 ∧ cd = w') (fun x => [(0, v0), (5, C), (6, D), (7, vi x), (8, vi e)]) ?_ ?_
        ·refine sq (rg (wY (ym z) z (wY (ym z) z ?_)))
         obtain ⟨F, dC, h⟩ := bnd h
         obtain ⟨ks, iQ, iR, jf, dD, dE, dF, aX, cL, dG⟩ := Sl.at2 af dC
         obtain ⟨_, _, rfl, rfl, ⟨_, _, rfl, ⟨g1, rfl, jg⟩, ⟨_, _, rfl, rfl, ⟨_, _, rfl, rfl, ⟨_, _, rfl, rfl, ⟨_, _, rfl, rfl, ⟨_, _, rfl, rfl, ⟨_, _, rfl, rfl, ⟨_, _, rfl, rfl, ⟨_, _, rfl, rfl, ⟨_, _, rfl, ⟨_, _, rfl, rfl, ⟨_, _, rfl, rfl, ⟨_, _, rfl, ⟨_, _, rfl, rfl, ⟨g2, rfl, jh⟩⟩, ⟨_, _, rfl, rfl, ⟨g3, rfl, ji⟩⟩⟩⟩⟩, rfl⟩⟩⟩⟩⟩⟩⟩⟩⟩⟩⟩ := cL
         replace aX : CellsAt _ _ _ [vs F.Name, g1, vi F.Kind, vi F.Temp, vB F.Mono, vi F.Start, vi F.Time, vi F.Int_, vu F.Re, vu F.Im, vi F.Hist.Scale, vu F.Hist.Zero, vi F.Hist.Pos.Offset, g2, vi F.Hist.Neg.Offset, g3, vi F.Flags] := aX
         have cM := CAt.imm aX dG
         refine wY (Y.indexAddr ty22 ty37 z dD z dE dF) z (wY (yf fo37_11 z) z (wY (yl ty3 z z (cM.at_.sub 16 [vi F.Flags] z)) z (wY (Y.neq_i z z) z (nl (th ?_)))))
         rcases cnd h with ⟨aY, h⟩ | ⟨aY, h⟩
         ·refine WC.condT' z aY (rg (wY (ym z) z (wY (ya z) z (nl ?_))))
          exact At.join (σ := Int) e ⟨some1 h, z⟩ (.cons z (.cons z (.cons z (.cons z (.cons z .nil)))))
         ·refine WC.condF' z aY (sk ?_)
          exact At.join (σ := Int) aO ⟨some1 h, z⟩ (.cons z (.cons z (.cons z (.cons z (.cons z .nil)))))
        ·rintro a _ ⟨rfl, rfl⟩
         replace h := dB
         try dsimp only at h
         refine (show At _ _ _ [(0, v0), (5, C), (6, D), (7, vi a), (8, vi e)] _ from ?_)
         refine th (sq (rg (wY (ya z) z (nl (th (sq (rg (wY (ym z) z (wY (ym z) z ?_)))))))))
         obtain ⟨l, dH, h⟩ := bnd h
         obtain ⟨kt, iS, iT, jj, dI, dJ, dK, aZ, cN, dL⟩ := Sl.at2 af dH
         obtain ⟨_, _, rfl, rfl, ⟨_, _, rfl, ⟨g4, rfl, jk⟩, ⟨_, _, rfl, rfl, ⟨_, _, rfl, rfl, ⟨_, _, rfl, rfl, ⟨_, _, rfl, rfl, ⟨_, _, rfl, rfl, ⟨_, _, rfl, rfl, ⟨_, _, rfl, rfl, ⟨_, _, rfl, rfl, ⟨_, _, rfl, ⟨_, _, rfl, rfl, ⟨_, _, rfl, rfl, ⟨_, _, rfl, ⟨_, _, rfl, rfl, ⟨g5, rfl, jl⟩⟩, ⟨_, _, rfl, rfl, ⟨g6, rfl, jm⟩⟩⟩⟩⟩, rfl⟩⟩⟩⟩⟩⟩⟩⟩⟩⟩⟩ := cN
         replace aZ : CellsAt _ _ _ [vs l.Name, g4, vi l.Kind, vi l.Temp, vB l.Mono, vi l.Start, vi l.Time, vi l.Int_, vu l.Re, vu l.Im, vi l.Hist.Scale, vu l.Hist.Zero, vi l.Hist.Pos.Offset, g5, vi l.Hist.Neg.Offset, g6, vi l.Flags] := aZ
         have cO := CAt.imm aZ dL
         refine wY (Y.indexAddr ty22 ty37 z dI z dJ dK) z (wY (yf fo37_10 z) z (wY (yf fo30_0 z) z (wY (yl ty3 z z (cO.at_.sub 10 [vi l.Hist.Scale] z)) z (wY (yb (vals := [(0, vi l.Hist.Scale)]) (cells := [vi l.Hist.Scale, vu 0, vi 0, Value.slice none 0 0, vi 0, Value.slice none 0 0]) (fe_ z) (by kernel_rfl)) z (WL.alloc (O := bW) 11 [vi 0, vu 0, vi 0, Value.slice none 0 0, vi 0, Value.slice none 0 0] ty30 z z ?_)))))
         intro J a2 jn n dM
         refine WL.store (v := ag [vi l.Hist.Scale, vu 0, vi 0, Value.slice none 0 0, vi 0, Value.slice none 0 0]) (cells' := [vi l.Hist.Scale, vu 0, vi 0, Value.slice none 0 0, vi 0, Value.slice none 0 0]) ty30 z z dM z (le_ z) z z ?_
         intro a3 o dN
         refine nl (th (sq (sq (rg (wY (ym z) z (wY (ya z) z (nl (th ?_))))))))
         obtain ⟨g7, h, ay⟩ := flow1 h
         refine WC.join (σ := (Int × Int × UInt64 × Int × List UInt64 × Int × List UInt64 × Own × Value × Value)) (fun x w' => g7 = .go (x.1, x.2.1, x.2.2.1, x.2.2.2.1, x.2.2.2.2.1, x.2.2.2.2.2.1, x.2.2.2.2.2.2.1) ∧ Stp [11, 12, 13, 1001] a2 a3 x.2.2.2.2.2.2.2.1 w' ∧ Sl Rep.u w' (frs x.2.2.2.2.2.2.2.1) x.2.2.2.2.2.2.2.2.1 x.2.2.2.2.1 ∧ Sl Rep.u w' (frs x.2.2.2.2.2.2.2.1) x.2.2.2.2.2.2.2.2.2 x.2.2.2.2.2.2.1 ∧ Blk 11 x.2.2.2.2.2.2.2.1 w' J 30 [vi x.2.1, vu x.2.2.1, vi x.2.2.2.1, x.2.2.2.2.2.2.2.2.1, vi x.2.2.2.2.2.1, x.2.2.2.2.2.2.2.2.2]) (fun x => [(0, v0), (5, C), (6, D), (7, vi a), (8, vi e), (9, vi x.1), (10, pt J 0)]) ?_ ?_
         ·refine WC.block ?_
          obtain ⟨cP, h, az⟩ := flow1 h
          obtain ⟨cQ, h⟩ := loop_some h
          refine WC.joinB 2 (σ := (Int × Int × UInt64 × Int × List UInt64 × Int × List UInt64 × Own × Value × Value)) (fun x w' => cP = .go (x.1, x.2.1, x.2.2.1, x.2.2.2.1, x.2.2.2.2.1, x.2.2.2.2.2.1, x.2.2.2.2.2.2.1) ∧ Stp [11, 12, 13, 1001] a2 a3 x.2.2.2.2.2.2.2.1 w' ∧ Sl Rep.u w' (frs x.2.2.2.2.2.2.2.1) x.2.2.2.2.2.2.2.2.1 x.2.2.2.2.1 ∧ Sl Rep.u w' (frs x.2.2.2.2.2.2.2.1) x.2.2.2.2.2.2.2.2.2 x.2.2.2.2.2.2.1 ∧ Blk 11 x.2.2.2.2.2.2.2.1 w' J 30 [vi x.2.1, vu x.2.2.1, vi x.2.2.2.1, x.2.2.2.2.2.2.2.2.1, vi x.2.2.2.2.2.1, x.2.2.2.2.2.2.2.2.2]) (fun x => [(0, v0), (5, C), (6, D), (7, vi a), (8, vi e), (9, vi x.1), (10, pt J 0)]) ?_ ?_
          ·refine WC.loop (σ := (Int × Int × UInt64 × Int × List UInt64 × Int × List UInt64 × Int × Own × Value × Value)) (fun x k w' => loopN k (law16_TocumSums_lp2 a0 cG cH e) (x.1, x.2.1, x.2.2.1, x.2.2.2.1, x.2.2.2.2.1, x.2.2.2.2.2.1, x.2.2.2.2.2.2.1, x.2.2.2.2.2.2.2.1) = some cP ∧ Stp [11, 12, 13, 1001] a2 a3 x.2.2.2.2.2.2.2.2.1 w' ∧ Sl Rep.u w' (frs x.2.2.2.2.2.2.2.2.1) x.2.2.2.2.2.2.2.2.2.1 x.2.2.2.2.1 ∧ Sl Rep.u w' (frs x.2.2.2.2.2.2.2.2.1) x.2.2.2.2.2.2.2.2.2.2 x.2.2.2.2.2.2.1 ∧ Blk 11 x.2.2.2.2.2.2.2.2.1 w' J 30 [vi x.2.1, vu x.2.2.1, vi x.2.2.2.1, x.2.2.2.2.2.2.2.2.2.1, vi x.2.2.2.2.2.1, x.2.2.2.2.2.2.2.2.2.2]) (fun x => [(0, v0), (5, C), (6, D), (7, vi a), (8, vi e), (9, vi x.1), (10, pt J 0), (11, vi x.2.2.2.2.2.2.2.1)]) (0, l.Hist.Scale, 0, 0, [], 0, [], a, a2, Value.slice none 0 0, Value.slice none 0 0) cQ (.cons z (.cons z (.cons z (.cons z (.cons z (.cons z (.cons z (.cons z .nil)))))))) ⟨h, (sr_ _ _ _), (Or.inl ⟨z, z⟩), (Or.inl ⟨z, z⟩), dN⟩ ?_
           rintro ⟨V, aF, aG, aH, bX, aI, bY, aJ, ad, a4, a5⟩ cQ dO ⟨h, E, aA, aC, aD⟩
           obtain ⟨g8, ku, rfl, h, ai⟩ := rnd1 h
           unfold law16_TocumSums_lp2 at h
           try dsimp only at h E aA aC aD
           refine (show WC _ _ _ _ [(0, v0), (5, C), (6, D), (7, vi a), (8, vi e), (9, vi V), (10, pt J 0), (11, vi aJ)] _ from ?_)
           refine sq (sq (rg (wY (ym z) z (wY (ym z) z (wY (Y.leq_i z z) z (nl (th ?_)))))))
           rcases cnd h with ⟨a6, h⟩ | ⟨a6, h⟩
           ·refine WC.condT' z a6 (sk (th (sq ?_)))
            obtain ⟨g9, h, aE⟩ := flow1 h
            refine WC.join (σ := (Int × Int × UInt64 × Int × List UInt64 × Int × List UInt64 × Own × Value × Value)) (fun x w' => g9 = .go (x.1, x.2.1, x.2.2.1, x.2.2.2.1, x.2.2.2.2.1, x.2.2.2.2.2.1, x.2.2.2.2.2.2.1) ∧ Stp [11, 12, 13, 1001] ad dO x.2.2.2.2.2.2.2.1 w' ∧ Sl Rep.u w' (frs x.2.2.2.2.2.2.2.1) x.2.2.2.2.2.2.2.2.1 x.2.2.2.2.1 ∧ Sl Rep.u w' (frs x.2.2.2.2.2.2.2.1) x.2.2.2.2.2.2.2.2.2 x.2.2.2.2.2.2.1 ∧ Blk 11 x.2.2.2.2.2.2.2.1 w' J 30 [vi x.2.1, vu x.2.2.1, vi x.2.2.2.1, x.2.2.2.2.2.2.2.2.1, vi x.2.2.2.2.2.1, x.2.2.2.2.2.2.2.2.2]) (fun x => [(0, v0), (5, C), (6, D), (7, vi a), (8, vi e), (9, vi x.1), (10, pt J 0), (11, vi aJ)]) ?_ ?_
            ·refine WC.block (sq (sq (rg (wY (ym z) z ?_))))
             obtain ⟨G, dP, h⟩ := bnd h
             have dQ := bU.i X z z
             have dR := dQ.i m z z
             have dS := dR.i n z z
             have dT := dS.i o z z
             have dU := dT.i E z z
             obtain ⟨kv, iU, iV, jo, dV, dW, dX, a7, cR, dY⟩ := Sl.at2 dU dP
             obtain ⟨_, _, rfl, rfl, ⟨_, _, rfl, ⟨ha, rfl, jp⟩, ⟨_, _, rfl, rfl, ⟨_, _, rfl, rfl, ⟨_, _, rfl, rfl, ⟨_, _, rfl, rfl, ⟨_, _, rfl, rfl, ⟨_, _, rfl, rfl, ⟨_, _, rfl, rfl, ⟨_, _, rfl, rfl, ⟨_, _, rfl, ⟨_, _, rfl, rfl, ⟨_, _, rfl, rfl, ⟨_, _, rfl, ⟨_, _, rfl, rfl, ⟨hc, rfl, jq⟩⟩, ⟨_, _, rfl, rfl, ⟨hd, rfl, jr⟩⟩⟩⟩⟩, rfl⟩⟩⟩⟩⟩⟩⟩⟩⟩⟩⟩ := cR
             replace a7 : CellsAt _ _ _ [vs G.Name, ha, vi G.Kind, vi G.Temp, vB G.Mono, vi G.Start, vi G.Time, vi G.Int_, vu G.Re, vu G.Im, vi G.Hist.Scale, vu G.Hist.Zero, vi G.Hist.Pos.Offset, hc, vi G.Hist.Neg.Offset, hd, vi G.Flags] := a7
             have cS := CAt.imm a7 dY
             refine wY (Y.indexAddr ty22 ty37 z dV z dW dX) z (wY (yf fo37_2 z) z (wY (yl ty3 z z (cS.at_.sub 2 [vi G.Kind] z)) z (wY (Y.eql_i z z) z (nl (th ?_)))))
             rcases cnd h with ⟨a8, h⟩ | ⟨a8, h⟩
             ·refine WC.condT' z a8 (sq (sq (rg (wY (ym z) z (wY (ym z) z (wY (ym z) z ?_))))))
              obtain ⟨r, dZ, h⟩ := bnd h
              have d0 := cI.i m z z
              have d1 := d0.i n z z
              have d2 := d1.i o z z
              have ce := d2.i E z z
              obtain ⟨kw, iW, iX, js, d3, d4, d5, a9, cT, d6⟩ := Sl.at2 ce dZ
              obtain ⟨_, _, rfl, rfl, ⟨_, _, rfl, ⟨he, rfl, jt⟩, ⟨_, _, rfl, rfl, ⟨_, _, rfl, rfl, ⟨_, _, rfl, rfl, ⟨_, _, rfl, rfl, ⟨_, _, rfl, rfl, ⟨_, _, rfl, rfl, ⟨_, _, rfl, rfl, ⟨_, _, rfl, rfl, ⟨_, _, rfl, ⟨_, _, rfl, rfl, ⟨_, _, rfl, rfl, ⟨_, _, rfl, ⟨_, _, rfl, rfl, ⟨hf, rfl, ju⟩⟩, ⟨_, _, rfl, rfl, ⟨hg, rfl, jv⟩⟩⟩⟩⟩, rfl⟩⟩⟩⟩⟩⟩⟩⟩⟩⟩⟩ := cT
              replace a9 : CellsAt _ _ _ [vs r.Name, he, vi r.Kind, vi r.Temp, vB r.Mono, vi r.Start, vi r.Time, vi r.Int_, vu r.Re, vu r.Im, vi r.Hist.Scale, vu r.Hist.Zero, vi r.Hist.Pos.Offset, hf, vi r.Hist.Neg.Offset, hg, vi r.Flags] := a9
              have cU := CAt.imm a9 d6
              refine wY (Y.indexAddr ty22 ty37 z d3 z d4 d5) z (wY (yf fo37_7 z) z (wY (yl ty3 z z (cU.at_.sub 7 [vi r.Int_] z)) z ?_))
              obtain ⟨kx, d7, h⟩ := bnd h
              refine WL.call (vals := [vi V, vi r.Int_, vB false]) kok15 z z (c_ref15_Wide d7) ?_
              rintro jw d8 ⟨rfl, d9⟩
              obtain ⟨cV, iu, iv, W⟩ := adoptE ad (fun k => 1) d9
              refine nl (th ?_)
              rcases cnd h with ⟨ba, h⟩ | ⟨ba, h⟩
              ·refine WC.condT' z ba (sq (rg (wY (ya z) z (nl (th (rt (At.thenR (At.thenR (At.inBlockR ?_)))))))))
               have h := outs1 h aE
               refine At.joinR (At.thenR (At.loopR ?_))
               have h := outr1 h ai az
               refine At.joinBR (At.inBlockR ?_)
               have h := outs1 h ay
               refine At.joinR (At.thenR (At.inBlockR ?_))
               have h := outs1 h ah
               refine At.joinR (At.thenR (At.loopR ?_))
               have h := outr1 h ac ae
               refine At.joinBR (At.inBlockR (At.thenR ?_))
               obtain rfl := some1 h
               have ea : Stp [11, 12, 13, 1001] (Lg.O0 A) w cV d8 := (tr_ (su_ U z) (tr_ (su_ P z) (tr_ (su_ X z) (tr_ (su_ m z) (tr_ (su_ n z) (tr_ (su_ o z) (tr_ (su_ E z) (su_ W z))))))))
               exact At.res (.inl z) z (.tmp z .nil) ⟨z, (se_ ea z z)⟩
              ·refine WC.condF' z ba (sk (th (sq (rg (wY (ym z) z (wY (ym z) z (wY (ym z) z ?_)))))))
               obtain ⟨H, eb, h⟩ := bnd h
               have ec := ce.i W z z
               obtain ⟨ky, iY, iZ, jx, ed, ee, ef, bb, cW, eg⟩ := Sl.at2 ec eb
               obtain ⟨_, _, rfl, rfl, ⟨_, _, rfl, ⟨hh, rfl, jy⟩, ⟨_, _, rfl, rfl, ⟨_, _, rfl, rfl, ⟨_, _, rfl, rfl, ⟨_, _, rfl, rfl, ⟨_, _, rfl, rfl, ⟨_, _, rfl, rfl, ⟨_, _, rfl, rfl, ⟨_, _, rfl, rfl, ⟨_, _, rfl, ⟨_, _, rfl, rfl, ⟨_, _, rfl, rfl, ⟨_, _, rfl, ⟨_, _, rfl, rfl, ⟨hi, rfl, jz⟩⟩, ⟨_, _, rfl, rfl, ⟨hj, rfl, jA⟩⟩⟩⟩⟩, rfl⟩⟩⟩⟩⟩⟩⟩⟩⟩⟩⟩ := cW
               replace bb : CellsAt _ _ _ [vs H.Name, hh, vi H.Kind, vi H.Temp, vB H.Mono, vi H.Start, vi H.Time, vi H.Int_, vu H.Re, vu H.Im, vi H.Hist.Scale, vu H.Hist.Zero, vi H.Hist.Pos.Offset, hi, vi H.Hist.Neg.Offset, hj, vi H.Flags] := bb
               have cX := CAt.imm bb eg
               refine wY (Y.indexAddr ty22 ty37 z ed z ee ef) z (wY (yf fo37_7 z) z (wY (yl ty3 z z (cX.at_.sub 7 [vi H.Int_] z)) z (wY (Y.add_i z z) z ?_)))
               obtain ⟨cY, cE, h⟩ := lt1 h
               refine WL.yE (ya z) (congrArg vi cE.symm) z (nl (th (WC.exit (At.thenX (At.inBlockHit ?_)))))
               have eh := aA.f W z
               have ei := aC.f W z
               have ej := aD.st W z
               exact At.join (σ := (Int × Int × UInt64 × Int × List UInt64 × Int × List UInt64 × Own × Value × Value)) (cY, aF, aG, aH, bX, aI, bY, cV, a4, a5) ⟨go2 h, (su_ W z), eh, ei, ej⟩ (.cons z (.cons z (.cons z (.cons z (.cons z (.cons z (.cons z (.cons z .nil))))))))
             ·refine WC.condF' z a8 (sk (th (sq (WC.drawH [12, 13, 1001] [0, 1, 2, 3, 4, 5, 6, 7, 8, 9, 10, 11, 12, 13, 14, 15, 16, 17, 18, 19, 20, 21, 22, 23, 24] ad 25 fmix z (by kernel_rfl) ?_))))
              intro ek L
              refine WD.y 0 z (by kernel_rfl) (fun _ _ _ => ym z) z (WD.y 1 z (by kernel_rfl) (fun _ _ _ => ym z) z ?_)
              obtain ⟨c, em, h⟩ := bnd h
              have en := cI.i m z z
              have eo := en.i n z z
              have ep := eo.i o z z
              have er := ep.i E z z
              have cf := er.i L z z
              obtain ⟨kz, i0, i1, jB, es, et, eu, bc, cZ, ew⟩ := Sl.at2 cf em
              obtain ⟨_, _, rfl, rfl, ⟨_, _, rfl, ⟨hl, rfl, jC⟩, ⟨_, _, rfl, rfl, ⟨_, _, rfl, rfl, ⟨_, _, rfl, rfl, ⟨_, _, rfl, rfl, ⟨_, _, rfl, rfl, ⟨_, _, rfl, rfl, ⟨_, _, rfl, rfl, ⟨_, _, rfl, rfl, ⟨_, _, rfl, ⟨_, _, rfl, rfl, ⟨_, _, rfl, rfl, ⟨_, _, rfl, ⟨_, _, rfl, rfl, ⟨bd, rfl, cg⟩⟩, ⟨_, _, rfl, rfl, ⟨bf, rfl, ch⟩⟩⟩⟩⟩, rfl⟩⟩⟩⟩⟩⟩⟩⟩⟩⟩⟩ := cZ
              replace bc : CellsAt _ _ _ [vs c.Name, hl, vi c.Kind, vi c.Temp, vB c.Mono, vi c.Start, vi c.Time, vi c.Int_, vu c.Re, vu c.Im, vi c.Hist.Scale, vu c.Hist.Zero, vi c.Hist.Pos.Offset, bd, vi c.Hist.Neg.Offset, bf, vi c.Flags] := bc
              have c0 := CAt.imm bc ew
              refine WD.y 2 z (by kernel_rfl) (fun _ _ _ => Y.indexAddr ty22 ty37 z es z et eu) z (WD.y 3 z (by kernel_rfl) (fun _ _ _ => yf fo37_10 z) z (WD.y 4 z (by kernel_rfl) (fun jD kA c1 => have ex := c0.st c1 z; yL ty30 z z (ex.at_.sub 10 [vi c.Hist.Scale, vu c.Hist.Zero, vi c.Hist.Pos.Offset, bd, vi c.Hist.Neg.Offset, bf] z) z) z (WD.y 5 z (by kernel_rfl) (fun _ _ _ => ym z) z (WD.y 6 z (by kernel_rfl) (fun _ _ _ => ym z) z ?_))))
              obtain ⟨p, ey, h⟩ := bnd h
              obtain ⟨kB, i2, i3, jE, ez, eA, eB, bg, c2, eC⟩ := Sl.at2 cf ey
              obtain ⟨_, _, rfl, rfl, ⟨_, _, rfl, ⟨hm, rfl, jF⟩, ⟨_, _, rfl, rfl, ⟨_, _, rfl, rfl, ⟨_, _, rfl, rfl, ⟨_, _, rfl, rfl, ⟨_, _, rfl, rfl, ⟨_, _, rfl, rfl, ⟨_, _, rfl, rfl, ⟨_, _, rfl, rfl, ⟨_, _, rfl, ⟨_, _, rfl, rfl, ⟨_, _, rfl, rfl, ⟨_, _, rfl, ⟨_, _, rfl, rfl, ⟨hn, rfl, jG⟩⟩, ⟨_, _, rfl, rfl, ⟨ho, rfl, jH⟩⟩⟩⟩⟩, rfl⟩⟩⟩⟩⟩⟩⟩⟩⟩⟩⟩ := c2
              replace bg : CellsAt _ _ _ [vs p.Name, hm, vi p.Kind, vi p.Temp, vB p.Mono, vi p.Start, vi p.Time, vi p.Int_, vu p.Re, vu p.Im, vi p.Hist.Scale, vu p.Hist.Zero, vi p.Hist.Pos.Offset, hn, vi p.Hist.Neg.Offset, ho, vi p.Flags] := bg
              have c3 := CAt.imm bg eC
              refine WD.y 7 z (by kernel_rfl) (fun _ _ _ => Y.indexAddr ty22 ty37 z ez z eA eB) z (WD.y 8 z (by kernel_rfl) (fun _ _ _ => yf fo37_10 z) z (WD.y 9 z (by kernel_rfl) (fun _ _ _ => yf fo30_0 z) z (WD.y 10 z (by kernel_rfl) (fun jI kC c4 => have eD := c3.st c4 z; yl ty3 z z (eD.at_.sub 10 [vi p.Hist.Scale] z)) z (WD.y 11 z (by kernel_rfl) (fun _ _ _ => ym z) z (WD.y 12 z (by kernel_rfl) (fun _ _ _ => ym z) z ?_)))))
              obtain ⟨q, eE, h⟩ := bnd h
              have eF := af.i n z z
              have eG := eF.i o z z
              have eH := eG.i E z z
              have eI := eH.i L z z
              obtain ⟨kD, i4, i5, jJ, eJ, eK, eL, bh, c5, eM⟩ := Sl.at2 eI eE
              obtain ⟨_, _, rfl, rfl, ⟨_, _, rfl, ⟨hp, rfl, jK⟩, ⟨_, _, rfl, rfl, ⟨_, _, rfl, rfl, ⟨_, _, rfl, rfl, ⟨_, _, rfl, rfl, ⟨_, _, rfl, rfl, ⟨_, _, rfl, rfl, ⟨_, _, rfl, rfl, ⟨_, _, rfl, rfl, ⟨_, _, rfl, ⟨_, _, rfl, rfl, ⟨_, _, rfl, rfl, ⟨_, _, rfl, ⟨_, _, rfl, rfl, ⟨hq, rfl, jL⟩⟩, ⟨_, _, rfl, rfl, ⟨hr, rfl, jM⟩⟩⟩⟩⟩, rfl⟩⟩⟩⟩⟩⟩⟩⟩⟩⟩⟩ := c5
              replace bh : CellsAt _ _ _ [vs q.Name, hp, vi q.Kind, vi q.Temp, vB q.Mono, vi q.Start, vi q.Time, vi q.Int_, vu q.Re, vu q.Im, vi q.Hist.Scale, vu q.Hist.Zero, vi q.Hist.Pos.Offset, hq, vi q.Hist.Neg.Offset, hr, vi q.Flags] := bh
              have c6 := CAt.imm bh eM
              refine WD.y 13 z (by kernel_rfl) (fun _ _ _ => Y.indexAddr ty22 ty37 z eJ z eK eL) z (WD.y 14 z (by kernel_rfl) (fun _ _ _ => yf fo37_10 z) z (WD.y 15 z (by kernel_rfl) (fun _ _ _ => yf fo30_0 z) z (WD.y 16 z (by kernel_rfl) (fun jN kE c7 => have eN := c6.st c7 z; yl ty3 z z (eN.at_.sub 10 [vi q.Hist.Scale] z)) z (WD.y 17 z (by kernel_rfl) (fun _ _ _ => Y.sub_i z z) z ?_))))
              obtain ⟨hs, h, eO⟩ := bnd h
              refine WD.join (σ := (Int × UInt64 × Int × List UInt64 × Int × List UInt64 × Int × Own × Nat × Value × Value)) (f' := 2) [22, 21, 20, 19, 18, 17, 16, 15, 14, 13, 12, 11, 10, 9, 8, 7, 6, 5, 4, 3, 2, 1, 0] (fun x O' w' => (x.1, x.2.1, x.2.2.1, x.2.2.2.1, x.2.2.2.2.1, x.2.2.2.2.2.1, x.2.2.2.2.2.2.1) = hs ∧ Stp [12, 13] ad ek x.2.2.2.2.2.2.2.1 w' ∧ Blk 1001 x.2.2.2.2.2.2.2.1 w' x.2.2.2.2.2.2.2.2.1 30 [vi 0, vu 0, vi 0, Value.slice none 0 0, vi 0, Value.slice none 0 0] ∧ Sl Rep.u w' (frs x.2.2.2.2.2.2.2.1) x.2.2.2.2.2.2.2.2.2.1 x.2.2.2.1 ∧ Sl Rep.u w' (frs x.2.2.2.2.2.2.2.1) x.2.2.2.2.2.2.2.2.2.2 x.2.2.2.2.2.1 ∧ x.2.2.2.2.2.2.2.1 = O') (fun x => [(0, v0), (5, C), (6, D), (7, vi a), (8, vi e), (9, vi V), (10, pt J 0), (11, vi aJ), (12, Value.pointer (some ⟨x.2.2.2.2.2.2.2.2.1, 0, none⟩)), (109, ag [vi x.1, vu x.2.1, vi x.2.2.1, x.2.2.2.2.2.2.2.2.2.1, vi x.2.2.2.2.1, x.2.2.2.2.2.2.2.2.2.2]), (110, vi x.2.2.2.2.2.2.1)]) (fun ci => ?_) ?_
              ·refine WD.heavy2 18 22 z z (by kernel_rfl) ?_ ?_
               ·obtain ⟨⟨Z, ht⟩, eP, h⟩ := bnd h
                refine WL.call (vals := [ag [vi c.Hist.Scale, vu c.Hist.Zero, vi c.Hist.Pos.Offset, bd, vi c.Hist.Neg.Offset, bf], vi (w64 (p.Hist.Scale - q.Hist.Scale))]) kok31 z z (c_hist_Down (A := fun _ => True) (a0 := c.Hist) (Sl.all cg) (Sl.all ch) eP) ?_
                rintro jO cj ⟨c8, c9, rfl, eQ, hu, hv⟩
                obtain ⟨bZ, iw, aP, bE⟩ := adoptE ad (fun k => 1) eQ
                have eR : Sl Rep.u cj (frs bZ) c8 Z.Pos.Counts := Sl.adoptF hu (fun k hk => ⟨hk, z⟩) aP
                have eS : Sl Rep.u cj (frs bZ) c9 Z.Neg.Counts := Sl.adoptF hv (fun k hk => ⟨hk, z⟩) aP
                refine nl (At.dq (su_ bE z) (WD.y 19 z (by kernel_rfl) (fun _ _ _ => ym z) z (WD.y 20 z (by kernel_rfl) (fun _ _ _ => yx z z) z (WD.y 21 z (by kernel_rfl) (fun _ _ _ => yx z z) z (WD.heavy 22 z (by kernel_rfl) (WL.alloc (O := bZ) 12 [vi 0, vu 0, vi 0, Value.slice none 0 0, vi 0, Value.slice none 0 0] ty30 z z ?_))))))
                intro hw kF jP aj eT
                refine nl (At.dq (su_ aj z) ?_)
                obtain ⟨hx, ak, eU⟩ := Blk.rlb 1001 rfl eT
                have eV := eR.f aj z
                have eW := eV.f ak z
                have eX := eS.f aj z
                have eY := eX.f ak z
                refine WD.own (su_ ak z) (WD.perm _ [22, 21, 20, 19, 18, 17, 16, 15, 14, 13, 12, 11, 10, 9, 8, 7, 6, 5, 4, 3, 2, 1, 0] (by kernel_rfl) ?_)
                exact ci (Z.Scale, Z.Zero, Z.Pos.Offset, Z.Pos.Counts, Z.Neg.Offset, Z.Neg.Counts, ht, hx, hw, c8, c9) _ _ _ ⟨some1 h, (tr_ (su_ bE z) (tr_ (su_ aj z) (su_ ak z))), eU, eW, eY, z⟩ (.cons z (.cons z (.cons z (.cons z (.cons z (.cons z (.cons z (.cons z (.cons z (.cons z (.cons z .nil)))))))))))
               ·try simp only [Option.bind_assoc] at h
                try simp only [Option.bind_some] at h
                refine WL.alloc (O := ad) 13 [vi 0, vu 0, vi 0, Value.slice none 0 0, vi 0, Value.slice none 0 0] ty30 z z ?_
                intro hy hz jQ al eZ
                refine nl (At.dq (su_ al z) (WD.heavy 18 z (by kernel_rfl) ?_))
                have e0 := cg.i al z z
                have e1 := ch.i al z z
                obtain ⟨⟨aa, hA⟩, e2, h⟩ := bnd h
                refine WL.call (vals := [ag [vi c.Hist.Scale, vu c.Hist.Zero, vi c.Hist.Pos.Offset, bd, vi c.Hist.Neg.Offset, bf], vi (w64 (p.Hist.Scale - q.Hist.Scale))]) kok31 z z (c_hist_Down (A := fun _ => True) (a0 := c.Hist) (Sl.all e0) (Sl.all e1) e2) ?_
                rintro jR ck ⟨da, db, rfl, e5, hC, hD⟩
                obtain ⟨dc, ix, aQ, aK⟩ := adoptE hz (fun k => 1) e5
                have e6 : Sl Rep.u ck (frs dc) da aa.Pos.Counts := Sl.adoptF hC (fun k hk => ⟨hk, z⟩) aQ
                have e7 : Sl Rep.u ck (frs dc) db aa.Neg.Counts := Sl.adoptF hD (fun k hk => ⟨hk, z⟩) aQ
                refine nl (At.dq (su_ aK z) (WD.y 19 z (by kernel_rfl) (fun _ _ _ => ym z) z (WD.y 20 z (by kernel_rfl) (fun _ _ _ => yx z z) z (WD.y 21 z (by kernel_rfl) (fun _ _ _ => yx z z) z ?_))))
                have e8 := eZ.st aK z
                obtain ⟨hE, am, e9⟩ := Blk.rlb 1001 rfl e8
                have fa := e6.f am z
                have fb := e7.f am z
                refine WD.own (su_ am z) (WD.perm _ [22, 21, 20, 19, 18, 17, 16, 15, 14, 13, 12, 11, 10, 9, 8, 7, 6, 5, 4, 3, 2, 1, 0] (by kernel_rfl) ?_)
                exact ci (aa.Scale, aa.Zero, aa.Pos.Offset, aa.Pos.Counts, aa.Neg.Offset, aa.Neg.Counts, hA, hE, hy, da, db) _ _ _ ⟨some1 h, (tr_ (su_ al z) (tr_ (su_ aK z) (su_ am z))), e9, fa, fb, z⟩ (.cons z (.cons z (.cons z (.cons z (.cons z (.cons z (.cons z (.cons z (.cons z (.cons z (.cons z .nil)))))))))))
              ·rintro ⟨ar, au, av, hF, aw, hG, hH, dd, hI, hJ, hK⟩ _ jS ⟨rfl, S, cl, bi, bj, rfl⟩
               replace h := eO
               try dsimp only at h S cl bi bj
               refine (show WD _ _ _ _ _ _ _ _ [(0, v0), (5, C), (6, D), (7, vi a), (8, vi e), (9, vi V), (10, pt J 0), (11, vi aJ), (12, pt hI 0), (109, ag [vi ar, vu au, vi av, hJ, vi aw, hK]), (110, vi hH)] _ _ from ?_)
               refine WD.heavy 23 z (by kernel_rfl) ?_
               have fc := h
               obtain ⟨bk, bl, bm, rfl⟩ := bi.shape
               have h := fc
               have fd := h
               obtain ⟨bn, bo, bp, rfl⟩ := bj.shape
               have h := fd
               refine WL.store (v := ag [vi ar, vu au, vi av, (Value.slice bk bl bm), vi aw, (Value.slice bn bo bp)]) (cells' := [vi ar, vu au, vi av, (Value.slice bk bl bm), vi aw, (Value.slice bn bo bp)]) ty30 z z cl z (le_ z) z z ?_
               intro fe K ff
               refine nl (At.dq (su_ K z) (WD.y 24 z (by kernel_rfl) (fun _ _ _ => ya z) z (WD.done_ (by kernel_rfl) (th (sq (sq (rg (wY (ym z) z (wY (Y.neq_i z z) z ?_)))))))))
               refine nl (th ?_)
               rcases cnd h with ⟨bq, h⟩ | ⟨bq, h⟩
               ·refine WC.condT' z bq (sq (rg (wY (ya z) z (nl (th (rt (At.thenR (At.inBlockR ?_))))))))
                have h := outs1 h aE
                refine At.joinR (At.thenR (At.loopR ?_))
                have h := outr1 h ai az
                refine At.joinBR (At.inBlockR ?_)
                have h := outs1 h ay
                refine At.joinR (At.thenR (At.inBlockR ?_))
                have h := outs1 h ah
                refine At.joinR (At.thenR (At.loopR ?_))
                have h := outr1 h ac ae
                refine At.joinBR (At.inBlockR (At.thenR ?_))
                obtain rfl := some1 h
                have fg : Stp [11, 12, 13, 1001] (Lg.O0 A) w dd fe := (tr_ (su_ U z) (tr_ (su_ P z) (tr_ (su_ X z) (tr_ (su_ m z) (tr_ (su_ n z) (tr_ (su_ o z) (tr_ (su_ E z) (tr_ (su_ L z) (tr_ (su_ S z) (su_ K z))))))))))
                exact At.res (.inl z) z (.tmp z .nil) ⟨z, (se_ fg z z)⟩
               ·refine WC.condF' z bq (sk (th (sq (rg ?_))))
                have fh := aD.st L z
                have fi := fh.st S z
                have cm := fi.st K z
                refine wY (yL ty30 z z (cm.cells 0 [vi aF, vu aG, vi aH, a4, vi aI, a5] z) z) z (wY (yL ty30 z z (ff.cells 0 [vi ar, vu au, vi av, (Value.slice bk bl bm), vi aw, (Value.slice bn bo bp)] z) z) z ?_)
                have fj := aA.f L z
                have fk := fj.f S z
                have fl := fk.f K z
                have fm := aC.f L z
                have fn := fm.f S z
                have fo := fn.f K z
                have fp := bi.f K z
                have fq := bj.f K z
                obtain ⟨⟨t, kG⟩, fr, h⟩ := bnd h
                refine WL.call (vals := [ag [vi aF, vu aG, vi aH, a4, vi aI, a5], ag [vi ar, vu au, vi av, (Value.slice bk bl bm), vi aw, (Value.slice bn bo bp)]]) kok32 z z (c_fold_Merge (A := fun _ => True) (a0 := (api_Hist.mk aF aG (api_Side.mk aH bX) (api_Side.mk aI bY))) (a1 := (api_Hist.mk ar au (api_Side.mk av hF) (api_Side.mk aw hG))) (Sl.all fl) (Sl.all fo) (Sl.all fp) (Sl.all fq) fr) ?_
                rintro jT cn ⟨hL, hM, rfl, fs, hN, hO⟩
                obtain ⟨br, iy, aR, aL⟩ := adoptE dd (fun k => 1) fs
                have co : Sl Rep.u cn (frs br) hL t.Pos.Counts := Sl.adoptF hN (fun k hk => ⟨hk, z⟩) aR
                have cp : Sl Rep.u cn (frs br) hM t.Neg.Counts := Sl.adoptF hO (fun k hk => ⟨hk, z⟩) aR
                refine wY (ym z) z (wY (yx z z) z (wY (yx z z) z ?_))
                have ft := h
                obtain ⟨b0, b1, b2, rfl⟩ := co.shape
                have h := ft
                have fu := h
                obtain ⟨b3, b4, b5, rfl⟩ := cp.shape
                have h := fu
                have fv := cm.st aL z
                refine WL.store (v := ag [vi t.Scale, vu t.Zero, vi t.Pos.Offset, (Value.slice b0 b1 b2), vi t.Neg.Offset, (Value.slice b3 b4 b5)]) (cells' := [vi t.Scale, vu t.Zero, vi t.Pos.Offset, (Value.slice b0 b1 b2), vi t.Neg.Offset, (Value.slice b3 b4 b5)]) ty30 z z fv z (le_ z) z z ?_
                intro fw an fx
                refine wY (ya z) z (nl (th (sq (rg (wY (ym z) z (wY (Y.neq_i z z) z (nl (th ?_))))))))
                rcases cnd h with ⟨bs, h⟩ | ⟨bs, h⟩
                ·refine WC.condT' z bs (sq (rg (wY (ya z) z (nl (th (rt (At.inBlockR ?_)))))))
                 have h := outs1 h aE
                 refine At.joinR (At.thenR (At.loopR ?_))
                 have h := outr1 h ai az
                 refine At.joinBR (At.inBlockR ?_)
                 have h := outs1 h ay
                 refine At.joinR (At.thenR (At.inBlockR ?_))
                 have h := outs1 h ah
                 refine At.joinR (At.thenR (At.loopR ?_))
                 have h := outr1 h ac ae
                 refine At.joinBR (At.inBlockR (At.thenR ?_))
                 obtain rfl := some1 h
                 have fy : Stp [11, 12, 13, 1001] (Lg.O0 A) w br fw := (tr_ (su_ U z) (tr_ (su_ P z) (tr_ (su_ X z) (tr_ (su_ m z) (tr_ (su_ n z) (tr_ (su_ o z) (tr_ (su_ E z) (tr_ (su_ L z) (tr_ (su_ S z) (tr_ (su_ K z) (tr_ (su_ aL z) (su_ an z))))))))))))
                 exact At.res (.inl z) z (.tmp z .nil) ⟨z, (se_ fy z z)⟩
                ·refine WC.condF' z bs (sk (At.inBlock ?_))
                 have fz := co.f an z
                 have fA := cp.f an z
                 exact At.join (σ := (Int × Int × UInt64 × Int × List UInt64 × Int × List UInt64 × Own × Value × Value)) (V, t.Scale, t.Zero, t.Pos.Offset, t.Pos.Counts, t.Neg.Offset, t.Neg.Counts, br, (Value.slice b0 b1 b2), (Value.slice b3 b4 b5)) ⟨go2 h, (tr_ (su_ L z) (tr_ (su_ S z) (tr_ (su_ K z) (tr_ (su_ aL z) (su_ an z))))), fz, fA, fx⟩ (.cons z (.cons z (.cons z (.cons z (.cons z (.cons z (.cons z (.cons z .nil))))))))
            ·rintro ⟨bF, hP, hQ, hR, hS, hT, hU, hV, hW, hX⟩ jU ⟨rfl, bG, cq, cr, cs⟩
             replace h := flowK_go aE
             try dsimp only at h bG cq cr cs
             refine (show At _ _ _ [(0, v0), (5, C), (6, D), (7, vi a), (8, vi e), (9, vi bF), (10, pt J 0), (11, vi aJ)] _ from ?_)
             refine th (rg (wY (ym z) z (wY (Y.add_i z z) z ?_)))
             obtain ⟨hY, fB, h⟩ := lt1 h
             refine WL.yE (ya z) (congrArg vi fB.symm) z (nl ?_)
             exact At.round (bF, hP, hQ, hR, hS, hT, hU, hY, hV, hW, hX) g8 (Nat.lt_succ_self _) ⟨next1 h ai, (tr_ (su_ E z) (su_ bG z)), cq, cr, cs⟩ (.cons z (.cons z (.cons z (.cons z (.cons z (.cons z (.cons z (.cons z .nil))))))))
           ·refine WC.condF' z a6 (WC.exit (At.thenX (At.loopX ?_)))
            exact At.hitB (σ := (Int × Int × UInt64 × Int × List UInt64 × Int × List UInt64 × Own × Value × Value)) (V, aF, aG, aH, bX, aI, bY, ad, a4, a5) ⟨brk1 h ai, (su_ E z), aA, aC, aD⟩ (.cons z (.cons z (.cons z (.cons z (.cons z (.cons z (.cons z .nil)))))))
          ·rintro ⟨bH, hZ, h0, h1, h2, h3, h4, h5, h6, h7⟩ jV ⟨rfl, bI, ct, cu, cv⟩
           replace h := flowK_go az
           try dsimp only at h bI ct cu cv
           refine (show At _ _ _ [(0, v0), (5, C), (6, D), (7, vi a), (8, vi e), (9, vi bH), (10, pt J 0)] _ from ?_)
           refine At.inBlockHit ?_
           exact At.join (σ := (Int × Int × UInt64 × Int × List UInt64 × Int × List UInt64 × Own × Value × Value)) (bH, hZ, h0, h1, h2, h3, h4, h5, h6, h7) ⟨go2 h, (su_ bI z), ct, cu, cv⟩ (.cons z (.cons z (.cons z (.cons z (.cons z (.cons z (.cons z .nil)))))))
         ·rintro ⟨de, b6, b7, b8, h8, b9, h9, ax, df, dg⟩ jW ⟨rfl, ab, cw, cx, cy⟩
          replace h := flowK_go ay
          try dsimp only at h ab cw cx cy
          refine (show At _ _ _ [(0, v0), (5, C), (6, D), (7, vi a), (8, vi e), (9, vi de), (10, pt J 0)] _ from ?_)
          refine th (sq (WC.drawH [] [0, 1, 2, 3, 4, 5, 6, 7, 8, 9, 10, 11, 12, 13, 14, 15, 16, 17, 18, 19, 20, 21, 22, 23] ax 24 fmix z (by kernel_rfl) ?_))
          intro cz T
          refine WD.y 0 z (by kernel_rfl) (fun _ _ _ => ym z) z (WD.y 1 z (by kernel_rfl) (fun _ _ _ => ym z) z (WD.y 2 z (by kernel_rfl) (fun _ _ _ => ym z) z ?_))
          obtain ⟨I, fC, h⟩ := bnd h
          have fD := af.i n z z
          have fF := fD.i o z z
          have fG := fF.i ab z z
          have cA := fG.i T z z
          obtain ⟨kH, i6, i7, jX, fH, fI, fJ, bt, dh, fK⟩ := Sl.at2 cA fC
          obtain ⟨_, _, rfl, rfl, ⟨_, _, rfl, ⟨ia, rfl, jY⟩, ⟨_, _, rfl, rfl, ⟨_, _, rfl, rfl, ⟨_, _, rfl, rfl, ⟨_, _, rfl, rfl, ⟨_, _, rfl, rfl, ⟨_, _, rfl, rfl, ⟨_, _, rfl, rfl, ⟨_, _, rfl, rfl, ⟨_, _, rfl, ⟨_, _, rfl, rfl, ⟨_, _, rfl, rfl, ⟨_, _, rfl, ⟨_, _, rfl, rfl, ⟨ib, rfl, jZ⟩⟩, ⟨_, _, rfl, rfl, ⟨ic, rfl, j0⟩⟩⟩⟩⟩, rfl⟩⟩⟩⟩⟩⟩⟩⟩⟩⟩⟩ := dh
          replace bt : CellsAt _ _ _ [vs I.Name, ia, vi I.Kind, vi I.Temp, vB I.Mono, vi I.Start, vi I.Time, vi I.Int_, vu I.Re, vu I.Im, vi I.Hist.Scale, vu I.Hist.Zero, vi I.Hist.Pos.Offset, ib, vi I.Hist.Neg.Offset, ic, vi I.Flags] := bt
          have di := CAt.imm bt fK
          refine WD.y 3 z (by kernel_rfl) (fun _ _ _ => Y.indexAddr ty22 ty37 z fH z fI fJ) z (WD.y 4 z (by kernel_rfl) (fun _ _ _ => yf fo37_7 z) z (WD.y 5 z (by kernel_rfl) (fun j1 kI dj => have fL := di.st dj z; yl ty3 z z (fL.at_.sub 7 [vi I.Int_] z)) z (WD.y 6 z (by kernel_rfl) (fun _ _ _ => Y.neq_i z z) z (WD.y 7 z (by kernel_rfl) (fun _ _ _ => ym z) z ?_))))
          obtain ⟨ie, h, fN⟩ := bnd h
          refine WD.join (σ := (Bool × Own)) (f' := 0) [23, 22, 21, 20, 19, 18, 17, 16, 15, 14, 13, 12, 11, 10, 9, 8, 7, 6, 5, 4, 3, 2, 1, 0] (fun x O' w' => x.1 = ie ∧ Stp [] ax cz x.2 w' ∧ x.2 = O') (fun x => [(0, v0), (5, C), (6, D), (7, vi a), (8, vi e), (144, vB x.1)]) (fun cC => ?_) ?_
          ·rcases cnd h with ⟨ao, h⟩ | ⟨ao, h⟩
           ·refine WD.ren 128 z (congrArg vB ao) (WD.gS 8 z (by kernel_rfl) z z z z (WD.gS 9 z (by kernel_rfl) z z z z (WD.gS 10 z (by kernel_rfl) z z z z (WD.gS 11 z (by kernel_rfl) z z z z (WD.gS 12 z (by kernel_rfl) z z z z (WD.gS 13 z (by kernel_rfl) z z z z (WD.gS 14 z (by kernel_rfl) z z z z (WD.gS 15 z (by kernel_rfl) z z z z (WD.gS 16 z (by kernel_rfl) z z z z ?_)))))))))
            refine WD.gS 17 z (by kernel_rfl) z z z z (WD.gS 18 z (by kernel_rfl) z z z z (WD.gS 19 z (by kernel_rfl) z z z z (WD.heavy 20 z (by kernel_rfl) (WL.gS z z z z (nl (At.dq (sr_ _ _ _) (WD.gS 21 z (by kernel_rfl) z z z z (WD.gS 22 z (by kernel_rfl) z z z z (WD.y 23 z (by kernel_rfl) (fun _ _ _ => Y.pick (b := true) z z) z ?_)))))))))
            refine WD.ren 128 z (congrArg vB ao.symm) ?_
            exact cC (true, ax) _ _ _ ⟨some1 h, (sr_ _ _ _), z⟩ (.cons z (.cons z (.cons z (.cons z (.cons z (.cons z .nil))))))
           ·refine WD.ren 128 z (congrArg vB ao) (WD.gT 8 z (by kernel_rfl) z z (fun _ _ _ => ym z) z ?_)
            obtain ⟨j, fO, h⟩ := bnd h
            have fP := bU.i X z z
            have fQ := fP.i m z z
            have fR := fQ.i n z z
            have fT := fR.i o z z
            have fU := fT.i ab z z
            have fV := fU.i T z z
            obtain ⟨bu, ap, i8, j2, fY, f0, f1, bw, dk, f2⟩ := Sl.at2 fV fO
            obtain ⟨_, _, rfl, rfl, ⟨_, _, rfl, ⟨ig, rfl, j3⟩, ⟨_, _, rfl, rfl, ⟨_, _, rfl, rfl, ⟨_, _, rfl, rfl, ⟨_, _, rfl, rfl, ⟨_, _, rfl, rfl, ⟨_, _, rfl, rfl, ⟨_, _, rfl, rfl, ⟨_, _, rfl, rfl, ⟨_, _, rfl, ⟨_, _, rfl, rfl, ⟨_, _, rfl, rfl, ⟨_, _, rfl, ⟨_, _, rfl, rfl, ⟨ih, rfl, j4⟩⟩, ⟨_, _, rfl, rfl, ⟨ii, rfl, j5⟩⟩⟩⟩⟩, rfl⟩⟩⟩⟩⟩⟩⟩⟩⟩⟩⟩ := dk
            replace bw : CellsAt _ _ _ [vs j.Name, ig, vi j.Kind, vi j.Temp, vB j.Mono, vi j.Start, vi j.Time, vi j.Int_, vu j.Re, vu j.Im, vi j.Hist.Scale, vu j.Hist.Zero, vi j.Hist.Pos.Offset, ih, vi j.Hist.Neg.Offset, ii, vi j.Flags] := bw
            have dl := CAt.imm bw f2
            refine WD.gT 9 z (by kernel_rfl) z z (fun _ _ _ => Y.indexAddr ty22 ty37 z fY z f0 f1) z (WD.gT 10 z (by kernel_rfl) z z (fun _ _ _ => yf fo37_2 z) z (WD.gT 11 z (by kernel_rfl) z z (fun j6 kJ dm => have f3 := dl.st dm z; yl ty3 z z (f3.at_.sub 2 [vi j.Kind] z)) z (WD.gT 12 z (by kernel_rfl) z z (fun _ _ _ => Y.eql_i z z) z (WD.gT 13 z (by kernel_rfl) z z (fun _ _ _ => ym z) z ?_))))
            obtain ⟨ij, h, f4⟩ := bnd h
            refine WD.join (σ := (Bool × Own)) (f' := 1) [22, 21, 20, 19, 18, 17, 16, 15, 14, 13, 12, 11, 10, 9, 8, 7, 6, 5, 4, 3, 2, 1, 0] (fun x O' w' => x.1 = ij ∧ Stp [] ax cz x.2 w' ∧ x.2 = O') (fun x => [(0, v0), (5, C), (6, D), (7, vi a), (8, vi e), (128, vB false), (129, v0), (130, Value.pointer (some ⟨bu, ap + (0 : Int).toNat * 17, none⟩)), (131, Value.pointer (some ⟨bu, ap + (0 : Int).toNat * 17 + 2, none⟩)), (132, vi j.Kind), (133, vB (decide (j.Kind = 4))), (134, vB (decide (j.Kind = 4))), (143, vB x.1)]) (fun cD => ?_) ?_
            ·rcases cnd h with ⟨aq, h⟩ | ⟨aq, h⟩
             ·refine WD.ren 134 z (congrArg vB aq) (WD.gT 14 z (by kernel_rfl) z z (fun j7 kK dn => have f5 := cy.st T z; have f6 := f5.st dn z; yL ty30 z z (f6.cells 0 [vi b6, vu b7, vi b8, df, vi b9, dg] z) z) z (WD.gT 15 z (by kernel_rfl) z z (fun _ _ _ => ym z) z (WD.gT 16 z (by kernel_rfl) z z (fun _ _ _ => ym z) z ?_)))
              obtain ⟨d, f7, h⟩ := bnd h
              obtain ⟨kL, i9, ja, j8, f8, f9, ga, bx, dp, gb⟩ := Sl.at2 cA f7
              obtain ⟨_, _, rfl, rfl, ⟨_, _, rfl, ⟨ik, rfl, j9⟩, ⟨_, _, rfl, rfl, ⟨_, _, rfl, rfl, ⟨_, _, rfl, rfl, ⟨_, _, rfl, rfl, ⟨_, _, rfl, rfl, ⟨_, _, rfl, rfl, ⟨_, _, rfl, rfl, ⟨_, _, rfl, rfl, ⟨_, _, rfl, ⟨_, _, rfl, rfl, ⟨_, _, rfl, rfl, ⟨_, _, rfl, ⟨_, _, rfl, rfl, ⟨ca, rfl, gc⟩⟩, ⟨_, _, rfl, rfl, ⟨cb, rfl, gd⟩⟩⟩⟩⟩, rfl⟩⟩⟩⟩⟩⟩⟩⟩⟩⟩⟩ := dp
              replace bx : CellsAt _ _ _ [vs d.Name, ik, vi d.Kind, vi d.Temp, vB d.Mono, vi d.Start, vi d.Time, vi d.Int_, vu d.Re, vu d.Im, vi d.Hist.Scale, vu d.Hist.Zero, vi d.Hist.Pos.Offset, ca, vi d.Hist.Neg.Offset, cb, vi d.Flags] := bx
              have dr := CAt.imm bx gb
              refine WD.gT 17 z (by kernel_rfl) z z (fun _ _ _ => Y.indexAddr ty22 ty37 z f8 z f9 ga) z (WD.gT 18 z (by kernel_rfl) z z (fun _ _ _ => yf fo37_10 z) z (WD.gT 19 z (by kernel_rfl) z z (fun ka kM ds => have ge := dr.st ds z; yL ty30 z z (ge.at_.sub 10 [vi d.Hist.Scale, vu d.Hist.Zero, vi d.Hist.Pos.Offset, ca, vi d.Hist.Neg.Offset, cb] z) z) z (WD.heavy 20 z (by kernel_rfl) (ug z z ?_))))
              have gf := cw.f T z
              have gg := cx.f T z
              obtain ⟨il, gh, h⟩ := bnd h
              refine WL.call (vals := [ag [vi b6, vu b7, vi b8, df, vi b9, dg], ag [vi d.Hist.Scale, vu d.Hist.Zero, vi d.Hist.Pos.Offset, ca, vi d.Hist.Neg.Offset, cb]]) kok26 z z (c_ref08_Same (A := fun _ => True) (a0 := (api_Hist.mk b6 b7 (api_Side.mk b8 h8) (api_Side.mk b9 h9))) (a1 := d.Hist) (Sl.all gf) (Sl.all gg) (Sl.all gc) (Sl.all gd) gh) ?_
              rintro kb kc ⟨rfl, gi⟩
              obtain ⟨im, iz, iA, bJ⟩ := adoptE ax (fun k => 1) gi
              refine nl (At.dq (su_ bJ z) (WD.gT 21 z (by kernel_rfl) z z (fun _ _ _ => Y.not z) z (WD.gT 22 z (by kernel_rfl) z z (fun _ _ _ => Y.pick (b := true) z z) z (WD.ren 134 z (congrArg vB aq.symm) ?_))))
              exact cD ((!il), im) _ _ _ ⟨some1 h, (su_ bJ z), z⟩ (.cons z (.cons z (.cons z (.cons z (.cons z (.cons z (.cons z (.cons z (.cons z (.cons z (.cons z (.cons z (.cons z .nil)))))))))))))
             ·refine WD.ren 134 z (congrArg vB aq) (WD.gS 14 z (by kernel_rfl) z z z z (WD.gS 15 z (by kernel_rfl) z z z z (WD.gS 16 z (by kernel_rfl) z z z z (WD.gS 17 z (by kernel_rfl) z z z z (WD.gS 18 z (by kernel_rfl) z z z z (WD.gS 19 z (by kernel_rfl) z z z z (WD.heavy 20 z (by kernel_rfl) (WL.gS z z z z (nl ?_)))))))))
              refine At.dq (sr_ _ _ _) (WD.gS 21 z (by kernel_rfl) z z z z (WD.gT 22 z (by kernel_rfl) z z (fun _ _ _ => Y.pick (b := false) z z) z (WD.ren 134 z (congrArg vB aq.symm) ?_)))
              exact cD (false, ax) _ _ _ ⟨some1 h, (sr_ _ _ _), z⟩ (.cons z (.cons z (.cons z (.cons z (.cons z (.cons z (.cons z (.cons z (.cons z (.cons z (.cons z (.cons z (.cons z .nil)))))))))))))
            ·rintro ⟨dt, io⟩ _ kd ⟨rfl, bK, rfl⟩
             replace h := f4
             try dsimp only at h bK
             refine (show WD _ _ _ _ _ _ _ _ [(0, v0), (5, C), (6, D), (7, vi a), (8, vi e), (128, vB false), (129, v0), (130, Value.pointer (some ⟨bu, ap + (0 : Int).toNat * 17, none⟩)), (131, Value.pointer (some ⟨bu, ap + (0 : Int).toNat * 17 + 2, none⟩)), (132, vi j.Kind), (133, vB (decide (j.Kind = 4))), (134, vB (decide (j.Kind = 4))), (143, vB dt)] _ _ from ?_)
             refine WD.y 23 z (by kernel_rfl) (fun _ _ _ => Y.pick (b := false) z z) z (WD.ren 128 z (congrArg vB ao.symm) ?_)
             exact cC (dt, io) _ _ _ ⟨some1 h, (su_ bK z), z⟩ (.cons z (.cons z (.cons z (.cons z (.cons z (.cons z .nil))))))
          ·rintro ⟨ip, du⟩ _ gj ⟨rfl, aM, rfl⟩
           replace h := fN
           try dsimp only at h aM
           refine (show WD _ _ _ _ _ _ _ _ [(0, v0), (5, C), (6, D), (7, vi a), (8, vi e), (144, vB ip)] _ _ from ?_)
           refine WD.done_ (by kernel_rfl) (th ?_)
           rcases cnd h with ⟨bz, h⟩ | ⟨bz, h⟩
           ·refine WC.condT' z bz (sq (rg (wY (ya z) z (nl (th (rt (At.inBlockR ?_)))))))
            have h := outs1 h ah
            refine At.joinR (At.thenR (At.loopR ?_))
            have h := outr1 h ac ae
            refine At.joinBR (At.inBlockR (At.thenR ?_))
            obtain rfl := some1 h
            have gk : Stp [11, 12, 13, 1001] (Lg.O0 A) w du gj := (tr_ (su_ U z) (tr_ (su_ P z) (tr_ (su_ X z) (tr_ (su_ m z) (tr_ (su_ n z) (tr_ (su_ o z) (tr_ (su_ ab z) (tr_ (su_ T z) (su_ aM z)))))))))
            exact At.res (.inl z) z (.tmp z .nil) ⟨z, (se_ gk z z)⟩
           ·refine WC.condF' z bz (sk (At.inBlock ?_))
            exact At.join (σ := (Int × Own)) (a, du) ⟨go2 h, (tr_ (su_ n z) (tr_ (su_ o z) (tr_ (su_ ab z) (tr_ (su_ T z) (su_ aM z)))))⟩ (.cons z (.cons z (.cons z (.cons z (.cons z .nil)))))
       ·rintro ⟨aN, iq⟩ ke ⟨rfl, bL⟩
        replace h := flowK_go ah
        try dsimp only at h bL
        refine (show At _ _ _ [(0, v0), (5, C), (6, D), (7, vi aN), (8, vi e)] _ from ?_)
        refine th (rg (wY (ym z) z (wY (Y.add_i z z) z ?_)))
        obtain ⟨ir, gl, h⟩ := lt1 h
        refine WL.yE (ya z) (congrArg vi gl.symm) z (nl ?_)
        exact At.round (aN, ir, iq) gY (Nat.lt_succ_self _) ⟨next1 h ac, (tr_ (su_ m z) (su_ bL z))⟩ (.cons z (.cons z (.cons z (.cons z (.cons z .nil)))))
      ·refine WC.condF' z aW (WC.exit (At.thenX (At.loopX ?_)))
       exact At.hitB (σ := Own) bW ⟨brk1 h ac, (su_ m z)⟩ .nil
     ·rintro it gm ⟨rfl, dw⟩
      replace h := flowK_go ae
      refine (show At _ _ _ [] _ from ?_)
      refine At.inBlockHit (th (sq (rg (wY (ya z) z (nl (th (rt ?_)))))))
      obtain rfl := some1 h
      have gn : Stp [11, 12, 13, 1001] (Lg.O0 A) w it gm := (tr_ (su_ U z) (tr_ (su_ P z) (tr_ (su_ X z) (su_ dw z))))
      exact At.res (.inl z) z (.tmp z .nil) ⟨z, (se_ gn z z)⟩
end Go.Lg
