/- The walks of RollupRolls and of what it calls, printed by gen.py. -/
import Derived.Test.YtihlealbhlgikaaGreatRrLgRollWRollupRollsx1
set_option linter.unusedVariables false
namespace Go.Lg
open Go Go.Proofs
set_option maxRecDepth 100000
set_option maxHeartbeats 4000000
theorem c_rollup_join {A : Nat → Prop} {v0_1 : Value} {v0_13 : Value} {v0_15 : Value} {a0 : api_Point} {v1_1 : Value} {v1_13 : Value} {v1_15 : Value} {a1 : api_Point} {w : World} (hs0_1 : Sl rep_api_Pair w A v0_1 a0.Attrs) (hs0_13 : Sl Rep.u w A v0_13 a0.Hist.Pos.Counts) (hs0_15 : Sl Rep.u w A v0_15 a0.Hist.Neg.Counts) (hs1_1 : Sl rep_api_Pair w A v1_1 a1.Attrs) (hs1_13 : Sl Rep.u w A v1_13 a1.Hist.Pos.Counts) (hs1_15 : Sl Rep.u w A v1_15 a1.Hist.Neg.Counts) {r0 : api_Point} {r1 : Int} (h : rollup_join a0 a1 = some (r0, r1)) : Rets Tryz.prog 23 [ag (cp a0 v0_1 v0_13 v0_15), ag (cp a1 v1_1 v1_13 v1_15)] w (fun v w' => ∃ (bh : Value) (aX : Value) (aY : Value), v = Value.tuple (List.toArray [ag (cp r0 bh aX aY), vi r1]) ∧ Ext w w' ∧ Sl rep_api_Pair w' (fun k => A k ∨ w.heap.size ≤ k) bh r0.Attrs ∧ Sl Rep.u w' (fun k => A k ∨ w.heap.size ≤ k) aX r0.Hist.Pos.Counts ∧ Sl Rep.u w' (fun k => A k ∨ w.heap.size ≤ k) aY r0.Hist.Neg.Counts) := by
 unfold rollup_join at h
 refine Rets.enter Tryz.func23 z z ?_
 have ft : Sl rep_api_Pair w (imm (Lg.O0 A)) v0_1 a0.Attrs := (Sl.start hs0_1)
 have bi : Sl Rep.u w (imm (Lg.O0 A)) v0_13 a0.Hist.Pos.Counts := (Sl.start hs0_13)
 have bj : Sl Rep.u w (imm (Lg.O0 A)) v0_15 a0.Hist.Neg.Counts := (Sl.start hs0_15)
 have fu : Sl rep_api_Pair w (imm (Lg.O0 A)) v1_1 a1.Attrs := (Sl.start hs1_1)
 have fv : Sl Rep.u w (imm (Lg.O0 A)) v1_13 a1.Hist.Pos.Counts := (Sl.start hs1_13)
 have fw : Sl Rep.u w (imm (Lg.O0 A)) v1_15 a1.Hist.Neg.Counts := (Sl.start hs1_15)
 refine (show WC _ _ _ _ [(0, ag (cp a0 v0_1 v0_13 v0_15)), (1, ag (cp a1 v1_1 v1_13 v1_15))] _ from ?_)
 refine sq (rg ?_)
 have fx := h
 obtain ⟨f1, f2, f3, rfl⟩ := ft.shape
 have h := fx
 have fy := h
 obtain ⟨aZ, a2, a3, rfl⟩ := bi.shape
 have h := fy
 have fz := h
 obtain ⟨a4, a5, a6, rfl⟩ := bj.shape
 have h := fz
 refine WL.box (O := (Lg.O0 A)) 11 (cp a0 (vl f1 f2 f3) (vl aZ a2 a3) (vl a4 a5 a6)) z z z ?_
 intro fo f4 gB U an
 have bk := fu.i U z z
 have fA := h
 obtain ⟨aG, aH, aI, rfl⟩ := bk.shape
 have h := fA
 have bl := fv.i U z z
 have fB := h
 obtain ⟨aJ, aK, aL, rfl⟩ := bl.shape
 have h := fB
 have bm := fw.i U z z
 have fC := h
 obtain ⟨aM, aN, aO, rfl⟩ := bm.shape
 have h := fC
 refine WL.box (O := f4) 12 (cp a1 (vl aG aH aI) (vl aJ aK aL) (vl aM aN aO)) z z z ?_
 intro fp f5 gC F fD
 refine WL.alloc (O := f5) 13 [vs [], sn, vi 0, vi 0, vB false, vi 0, vi 0, vi 0, vu 0, vu 0, vi 0, vu 0, vi 0, sn, vi 0, sn, vi 0] ty40 z z ?_
 intro fq f6 gE E bn
 refine wY (ya z) z (nl (th (sq (rg ?_))))
 have ao := fD.st E z
 refine wY (yL ty40 z z (ao.cells 0 (cp a1 (vl aG aH aI) (vl aJ aK aL) (vl aM aN aO)) z) z) z ?_
 have bo := (bk.i F z z).i E z z
 have bp := (bl.i F z z).i E z z
 have bq := (bm.i F z z).i E z z
 obtain ⟨c, fI, h⟩ := bnd h
 refine WL.call (vals := [ag (cp a1 (vl aG aH aI) (vl aJ aK aL) (vl aM aN aO))]) kok22 z z (c_point_Clone (A := fun _ => True) (a0 := a1) (Sl.all bo) (Sl.all bp) (Sl.all bq) fI) ?_
 rintro gG aR ⟨a7, br, fs, rfl, fJ, f7, f8, f9, ga, gb, gc⟩
 obtain ⟨a8, gd, ak, q⟩ := adoptE f6 (fun k => if ob a7 = some k then 14 else if ob br = some k then 15 else if ob fs = some k then 16 else 1) fJ
 have fK : OwnSl 14 rep_api_Pair 67 a8 aR a7 c.Attrs := RowF.adopt 14 flat_api_Pair f7 ak (fun k hk => if_pos hk)
 have fL : OwnSl 15 Rep.u 33 a8 aR br c.Hist.Pos.Counts := RowF.adopt 15 Flat.u f8 ak (fun k hk => (if_neg (fun (e : ob a7 = some k) => ga k e hk)).trans (if_pos hk))
 have fN : OwnSl 16 Rep.u 33 a8 aR fs c.Hist.Neg.Counts := RowF.adopt 16 Flat.u f9 ak (fun k hk => (if_neg (fun (e : ob a7 = some k) => gb k e hk)).trans ((if_neg (fun (e : ob br = some k) => gc k e hk)).trans (if_pos hk)))
 refine WL.alloc (O := a8) 17 [vs [], sn, vi 0, vi 0, vB false, vi 0, vi 0, vi 0, vu 0, vu 0, vi 0, vu 0, vi 0, sn, vi 0, sn, vi 0] ty40 z z ?_
 intro aP a9 gH o fO
 have aS := fK.st o z z z
 have fP := h
 obtain ⟨M, P, Q, rfl⟩ := aS.shape
 have h := fP
 have bs := fL.st o z z z
 have bD := h
 obtain ⟨S, T, G, rfl⟩ := bs.shape
 have h := bD
 have ba := fN.st o z z z
 have bE := h
 obtain ⟨H, I, J, rfl⟩ := ba.shape
 have h := bE
 refine WL.store (v := ag (cp c (vl M P Q) (vl S T G) (vl H I J))) (cells' := (cp c (vl M P Q) (vl S T G) (vl H I J))) ty40 z z fO z (le_ z) z z ?_
 intro ge j bF
 refine nl (th (sq (WC.drawH [17] [0, 1, 2, 3, 4, 5, 6, 7, 8, 9] a9 11 fmix z (by kernel_rfl) ?_)))
 intro gf d
 refine WD.y 0 z (by kernel_rfl) (fun _ _ _ => yf fo40_5 z) z (WD.y 1 z (by kernel_rfl) (fun gg gI bt => have bG := an.st F z; have bH := bG.st E z; have bI := bH.st q z; have bJ := bI.st o z; have bK := bJ.st j z; have bL := bK.st d z; have bM := bL.st bt z; yl ty3 z z (bM.cell 5 _ z)) z (WD.y 2 z (by kernel_rfl) (fun _ _ _ => yf fo40_11 z) z (WD.y 3 z (by kernel_rfl) (fun gh gJ bu => have bO := an.st F z; have bP := bO.st E z; have bQ := bP.st q z; have bR := bQ.st o z; have bS := bR.st j z; have bT := bS.st d z; have bU := bT.st bu z; yl ty3 z z (bU.cell 16 _ z)) z (WD.y 4 z (by kernel_rfl) (fun _ _ _ => yf fo40_11 z) z (WD.y 5 z (by kernel_rfl) (fun gi gK bw => have bW := ao.st q z; have bX := bW.st o z; have bY := bX.st j z; have bZ := bY.st d z; have b0 := bZ.st bw z; yl ty3 z z (b0.cell 16 _ z)) z (WD.y 6 z (by kernel_rfl) (fun _ _ _ => Y.or_i z z) z (WD.y 7 z (by kernel_rfl) (fun _ _ _ => yf fo40_5 z) z (WD.heavy 8 z (by kernel_rfl) ?_))))))))
 have b1 := bF.st d z
 refine WL.store (v := vi a0.Start) (cells' := [vs c.Name, (vl M P Q), vi c.Kind, vi c.Temp, vB c.Mono, vi a0.Start, vi c.Time, vi c.Int_, vu c.Re, vu c.Im, vi c.Hist.Scale, vu c.Hist.Zero, vi c.Hist.Pos.Offset, (vl S T G), vi c.Hist.Neg.Offset, (vl H I J), vi c.Flags]) ty3 z z b1 z (le_ z) z z ?_
 intro gj l b2
 refine nl (At.dq (su_ l z) (WD.y 9 z (by kernel_rfl) (fun _ _ _ => yf fo40_11 z) z (WD.phase [17] [0, 1, 2, 3, 4, 5, 6, 7, 8, 9, 10] (by kernel_rfl) (by kernel_rfl) (WD.heavy 10 z (by kernel_rfl) ?_))))
 obtain ⟨K, b3, h⟩ := lt1 h
 refine WL.ren 16 z (congrArg vi b3.symm) (WL.store (v := vi K) (cells' := [vs c.Name, (vl M P Q), vi c.Kind, vi c.Temp, vB c.Mono, vi a0.Start, vi c.Time, vi c.Int_, vu c.Re, vu c.Im, vi c.Hist.Scale, vu c.Hist.Zero, vi c.Hist.Pos.Offset, (vl S T G), vi c.Hist.Neg.Offset, (vl H I J), vi K]) ty3 z z b2 z (le_ z) z z ?_)
 intro b4 m bb
 refine nl (At.dq (su_ m z) (WD.done_ (by kernel_rfl) (th (sq ?_))))
 obtain ⟨fQ, h, b5⟩ := bnd h
 refine WC.join (σ := (Int × Own)) (fun x w' => x.1 = fQ ∧ Stp [17] a9 b4 x.2 w' ∧ Blk 17 x.2 w' aP 40 [vs c.Name, (vl M P Q), vi c.Kind, vi c.Temp, vB c.Mono, vi x.1, vi c.Time, vi c.Int_, vu c.Re, vu c.Im, vi c.Hist.Scale, vu c.Hist.Zero, vi c.Hist.Pos.Offset, (vl S T G), vi c.Hist.Neg.Offset, (vl H I J), vi K]) (fun x => [(2, pt fo 0), (3, pt fp 0), (4, pt fq 0), (6, pt aP 0)]) ?_ ?_
 ·refine sq (rg (wY (yf fo40_2 z) z ?_))
  have cd := (((((((an.st F z).st E z).st q z).st o z).st j z).st d z).st l z).st m z
  refine wY (yl ty3 z z (cd.cell 2 _ z)) z (wY (Y.eql_i z z) z (nl (th ?_)))
  rcases cnd h with ⟨ap, h⟩ | ⟨ap, h⟩
  ·refine WC.condT' z ap (rg (wY (yf fo40_5 z) z ?_))
   have cj := (((((ao.st q z).st o z).st j z).st d z).st l z).st m z
   refine wY (yl ty3 z z (cj.cell 5 _ z)) z (wY (yf fo40_5 z) z (WL.store (v := vi a1.Start) (cells' := [vs c.Name, (vl M P Q), vi c.Kind, vi c.Temp, vB c.Mono, vi a1.Start, vi c.Time, vi c.Int_, vu c.Re, vu c.Im, vi c.Hist.Scale, vu c.Hist.Zero, vi c.Hist.Pos.Offset, (vl S T G), vi c.Hist.Neg.Offset, (vl H I J), vi K]) ty3 z z bb z (le_ z) z z ?_))
   intro gk bx ck
   refine nl ?_
   exact At.join (σ := (Int × Own)) (a1.Start, a9) ⟨some1 h, (su_ bx z), ck⟩ (.cons z (.cons z (.cons z (.cons z .nil))))
  ·refine WC.condF' z ap (sk ?_)
   exact At.join (σ := (Int × Own)) (a0.Start, a9) ⟨some1 h, (sr_ _ _ _), bb⟩ (.cons z (.cons z (.cons z (.cons z .nil))))
 ·rintro ⟨V, fR⟩ gl ⟨rfl, n, aq⟩
  replace h := b5
  try dsimp only at h n aq
  refine (show At _ _ _ [(2, pt fo 0), (3, pt fp 0), (4, pt fq 0), (6, pt aP 0)] _ from ?_)
  refine th (sq (sq (rg (wY (yf fo40_3 z) z ?_))))
  have Z := ((((((((an.st F z).st E z).st q z).st o z).st j z).st d z).st l z).st m z).st n z
  refine wY (yl ty3 z z (Z.cell 3 _ z)) z (wY (Y.neq_i z z) z (nl (th ?_)))
  rcases cnd h with ⟨ar, h⟩ | ⟨ar, h⟩
  ·refine WC.condT' z ar (sq (rg (wY (yL ty40 z z (aq.cells 0 [vs c.Name, (vl M P Q), vi c.Kind, vi c.Temp, vB c.Mono, vi V, vi c.Time, vi c.Int_, vu c.Re, vu c.Im, vi c.Hist.Scale, vu c.Hist.Zero, vi c.Hist.Pos.Offset, (vl S T G), vi c.Hist.Neg.Offset, (vl H I J), vi K] z) z) z ?_)))
   have cA := ((((((bn.st q z).st o z).st j z).st d z).st l z).st m z).st n z
   refine WL.store (v := ag [vs c.Name, (vl M P Q), vi c.Kind, vi c.Temp, vB c.Mono, vi V, vi c.Time, vi c.Int_, vu c.Re, vu c.Im, vi c.Hist.Scale, vu c.Hist.Zero, vi c.Hist.Pos.Offset, (vl S T G), vi c.Hist.Neg.Offset, (vl H I J), vi K]) (cells' := [vs c.Name, (vl M P Q), vi c.Kind, vi c.Temp, vB c.Mono, vi V, vi c.Time, vi c.Int_, vu c.Re, vu c.Im, vi c.Hist.Scale, vu c.Hist.Zero, vi c.Hist.Pos.Offset, (vl S T G), vi c.Hist.Neg.Offset, (vl H I J), vi K]) ty40 z z cA z (le_ z) z z ?_
   intro cC aa cD
   refine wY (ya z) z (nl (th (rt (At.thenR ?_))))
   obtain ⟨rfl, rfl⟩ := tup2 h
   have cJ := (((((aS.st j z z z).st d z z z).st l z z z).st m z z z).st n z z z).st aa z z z
   obtain ⟨gL, ab, cK⟩ := OwnSl.giveF rfl flat_api_Pair cJ
   have cR := ((((((bs.st j z z z).st d z z z).st l z z z).st m z z z).st n z z z).st aa z z z).st ab z z z
   obtain ⟨gM, ac, cS⟩ := OwnSl.giveF rfl Flat.u cR
   have c0 := (((((((ba.st j z z z).st d z z z).st l z z z).st m z z z).st n z z z).st aa z z z).st ab z z z).st ac z z z
   obtain ⟨fT, ad, c1⟩ := OwnSl.giveF rfl Flat.u c0
   have ah : Stp [13, 14, 15, 16, 17] (Lg.O0 A) w fT cC := (tr_ (su_ U z) (tr_ (su_ F z) (tr_ (su_ E z) (tr_ (su_ q z) (tr_ (su_ o z) (tr_ (su_ j z) (tr_ (su_ d z) (tr_ (su_ l z) (tr_ (su_ m z) (tr_ (su_ n z) (tr_ (su_ aa z) (tr_ (su_ ab z) (tr_ (su_ ac z) (su_ ad z))))))))))))))
   have c3 := (cK.f ac z).f ad z
   have c4 := cS.f ad z
   have c7 := ((cD.st ab z).st ac z).st ad z
   exact At.res (.inl z) z (.cell z (c7.runAg 0 [vs c.Name, (vl M P Q), vi c.Kind, vi c.Temp, vB c.Mono, vi V, vi c.Time, vi c.Int_, vu c.Re, vu c.Im, vi c.Hist.Scale, vu c.Hist.Zero, vi c.Hist.Pos.Offset, (vl S T G), vi c.Hist.Neg.Offset, (vl H I J), vi K] ty40 z z z) (.tmp z .nil)) ⟨(vl M P Q), (vl S T G), (vl H I J), z, (se_ ah z z), (Sl.outI (Sl.mono c3 frs_imm) ah low0 O0_A), (Sl.outI (Sl.mono c4 frs_imm) ah low0 O0_A), (Sl.outI (Sl.mono c1 frs_imm) ah low0 O0_A)⟩
  ·refine WC.condF' z ar (sk (th (sq (WC.drawH [17] [0, 1, 2, 3, 4, 5, 6, 7, 8, 9, 10, 11, 12, 13, 14] fR 16 fmix z (by kernel_rfl) ?_))))
   intro gm p
   refine WD.y 0 z (by kernel_rfl) (fun _ _ _ => yf fo40_7 z) z (WD.y 1 z (by kernel_rfl) (fun gn gO bz => have c8 := Z.st p z; have c9 := c8.st bz z; yl ty3 z z (c9.cell 7 _ z)) z (WD.y 2 z (by kernel_rfl) (fun _ _ _ => yf fo40_8 z) z (WD.y 3 z (by kernel_rfl) (fun gp gP bA => have da := Z.st p z; have db := da.st bA z; yl ty33 z z (db.cell 8 _ z)) z (WD.y 4 z (by kernel_rfl) (fun _ _ _ => yf fo40_9 z) z (WD.y 5 z (by kernel_rfl) (fun gq gQ bB => have dc := Z.st p z; have dd := dc.st bB z; yl ty33 z z (dd.cell 9 _ z)) z (WD.y 6 z (by kernel_rfl) (fun _ _ _ => yf fo40_10 z) z (WD.y 7 z (by kernel_rfl) (fun gr gR bC => have de := Z.st p z; have df := de.st bC z; yL ty38 z z (df.cells 10 (hl a0.Hist (vl aZ a2 a3) (vl a4 a5 a6)) z) z) z (WD.y 8 z (by kernel_rfl) (fun _ _ _ => yf fo40_7 z) z (WD.heavy 9 z (by kernel_rfl) ?_)))))))))
   have dg := aq.st p z
   refine WL.store (v := vi a0.Int_) (cells' := [vs c.Name, (vl M P Q), vi c.Kind, vi c.Temp, vB c.Mono, vi V, vi c.Time, vi a0.Int_, vu c.Re, vu c.Im, vi c.Hist.Scale, vu c.Hist.Zero, vi c.Hist.Pos.Offset, (vl S T G), vi c.Hist.Neg.Offset, (vl H I J), vi K]) ty3 z z dg z (le_ z) z z ?_
   intro gs r dh
   refine nl (At.dq (su_ r z) (WD.y 10 z (by kernel_rfl) (fun _ _ _ => yf fo40_8 z) z (WD.heavy 11 z (by kernel_rfl) (WL.store (v := vu a0.Re) (cells' := [vs c.Name, (vl M P Q), vi c.Kind, vi c.Temp, vB c.Mono, vi V, vi c.Time, vi a0.Int_, vu a0.Re, vu c.Im, vi c.Hist.Scale, vu c.Hist.Zero, vi c.Hist.Pos.Offset, (vl S T G), vi c.Hist.Neg.Offset, (vl H I J), vi K]) ty33 z z dh z (le_ z) z z ?_))))
   intro gt t di
   refine nl (At.dq (su_ t z) (WD.y 12 z (by kernel_rfl) (fun _ _ _ => yf fo40_9 z) z (WD.heavy 13 z (by kernel_rfl) (WL.store (v := vu a0.Im) (cells' := [vs c.Name, (vl M P Q), vi c.Kind, vi c.Temp, vB c.Mono, vi V, vi c.Time, vi a0.Int_, vu a0.Re, vu a0.Im, vi c.Hist.Scale, vu c.Hist.Zero, vi c.Hist.Pos.Offset, (vl S T G), vi c.Hist.Neg.Offset, (vl H I J), vi K]) ty33 z z di z (le_ z) z z ?_))))
   intro gu C dj
   refine nl (At.dq (su_ C z) (WD.y 14 z (by kernel_rfl) (fun _ _ _ => yf fo40_10 z) z (WD.phase [17] [0, 1, 2, 3, 4, 5, 6, 7, 8, 9, 10, 11, 12, 13, 14, 15] (by kernel_rfl) (by kernel_rfl) (WD.heavy 15 z (by kernel_rfl) (WL.store (v := ag (hl a0.Hist (vl aZ a2 a3) (vl a4 a5 a6))) (cells' := [vs c.Name, (vl M P Q), vi c.Kind, vi c.Temp, vB c.Mono, vi V, vi c.Time, vi a0.Int_, vu a0.Re, vu a0.Im, vi a0.Hist.Scale, vu a0.Hist.Zero, vi a0.Hist.Pos.Offset, (vl aZ a2 a3), vi a0.Hist.Neg.Offset, (vl a4 a5 a6), vi K]) ty38 z z dj z (le_ z) z z ?_)))))
   intro gw D bc
   refine nl (At.dq (su_ D z) (WD.done_ (by kernel_rfl) (th (sq (rg ?_)))))
   have dy := (((((((((((ao.st q z).st o z).st j z).st d z).st l z).st m z).st n z).st p z).st r z).st t z).st C z).st D z
   refine wY (yL ty40 z z (dy.cells 0 (cp a1 (vl aG aH aI) (vl aJ aK aL) (vl aM aN aO)) z) z) z ?_
   have dI := (((((((((aS.st j z z z).st d z z z).st l z z z).st m z z z).st n z z z).st p z z z).st r z z z).st t z z z).st C z z z).st D z z z
   obtain ⟨al, L, dJ⟩ := OwnSl.giveF rfl flat_api_Pair dI
   have dZ := (((((((((((((((bi.i U z z).i F z z).i E z z).i q z z).i o z z).i j z z).i d z z).i l z z).i m z z).i n z z).i p z z).i r z z).i t z z).i C z z).i D z z).i L z z
   have ef := (((((((((((((((bj.i U z z).i F z z).i E z z).i q z z).i o z z).i j z z).i d z z).i l z z).i m z z).i n z z).i p z z).i r z z).i t z z).i C z z).i D z z).i L z z
   have eu := ((((((((((((bo.i q z z).i o z z).i j z z).i d z z).i l z z).i m z z).i n z z).i p z z).i r z z).i t z z).i C z z).i D z z).i L z z
   have eI := ((((((((((((bp.i q z z).i o z z).i j z z).i d z z).i l z z).i m z z).i n z z).i p z z).i r z z).i t z z).i C z z).i D z z).i L z z
   have eV := ((((((((((((bq.i q z z).i o z z).i j z z).i d z z).i l z z).i m z z).i n z z).i p z z).i r z z).i t z z).i C z z).i D z z).i L z z
   have au := bc.st L z
   obtain ⟨⟨gU, W⟩, eW, h⟩ := bnd h
   refine WL.call (vals := [pt aP 0, ag (cp a1 (vl aG aH aI) (vl aJ aK aL) (vl aM aN aO))]) kok51 z z (c_rollup_values (A := imm al) (a0 := (api_Point.mk c.Name c.Attrs c.Kind c.Temp c.Mono V c.Time a0.Int_ a0.Re a0.Im a0.Hist K)) (a1 := a1) (Sl.mono dJ frs_imm) dZ ef bc.blk eu eI eV (fun k hk => imm_ne au.lab z k hk) eW) ?_
   rintro gz ai ⟨aT, aU, aW, rfl, eX, fU, fV, fY, f0⟩
   obtain ⟨am, X, af, aQ⟩ := adopt al (fun k => 1) [17] eX (memB au.lab rfl)
   have bd : Sl rep_api_Pair ai (imm am) aT W.Attrs := Sl.adoptI (O := al) fU (fun _ hk => hk) (fun _ _ => Nat.le_refl _) X af
   have bf : Sl Rep.u ai (imm am) aU W.Hist.Pos.Counts := Sl.adoptI (O := al) fV (fun _ hk => hk) (fun _ _ => Nat.le_refl _) X af
   have bg : Sl Rep.u ai (imm am) aW W.Hist.Neg.Counts := Sl.adoptI (O := al) fY (fun _ hk => hk) (fun _ _ => Nat.le_refl _) X af
   have eY : Blk 17 am ai aP 40 (cp W aT aU aW) := Blk.adopt au X f0
   refine wY (ya z) z (nl (th (sq (rg (wY (yL ty40 z z (eY.cells 0 (cp W aT aU aW) z) z) z (wY (ym z) z ?_))))))
   have eZ := h
   obtain ⟨av, ax, ay, rfl⟩ := bd.shape
   have h := eZ
   have e0 := h
   obtain ⟨az, aA, aC, rfl⟩ := bf.shape
   have h := e0
   have e1 := h
   obtain ⟨aD, aE, aF, rfl⟩ := bg.shape
   have h := e1
   have fi := (((((((((((((bn.st q z).st o z).st j z).st d z).st l z).st m z).st n z).st p z).st r z).st t z).st C z).st D z).st L z).st aQ z
   refine WL.store (v := ag (cp W (vl av ax ay) (vl az aA aC) (vl aD aE aF))) (cells' := (cp W (vl av ax ay) (vl az aA aC) (vl aD aE aF))) ty40 z z fi z (le_ z) z z ?_
   intro fj ae fk
   refine wY (ya z) z (nl (th (rt ?_)))
   obtain ⟨rfl, rfl⟩ := tup2 h
   have aj : Stp [13, 14, 17] (Lg.O0 A) w am fj := (tr_ (su_ U z) (tr_ (su_ F z) (tr_ (su_ E z) (tr_ (su_ q z) (tr_ (su_ o z) (tr_ (su_ j z) (tr_ (su_ d z) (tr_ (su_ l z) (tr_ (su_ m z) (tr_ (su_ n z) (tr_ (su_ p z) (tr_ (su_ r z) (tr_ (su_ t z) (tr_ (su_ C z) (tr_ (su_ D z) (tr_ (su_ L z) (tr_ (su_ aQ z) (su_ ae z))))))))))))))))))
   have fl := bd.i ae z z
   have fm := bf.i ae z z
   have fn := bg.i ae z z
   exact At.res (.inl z) z (.cell z (fk.runAg 0 (cp W (vl av ax ay) (vl az aA aC) (vl aD aE aF)) ty40 z z z) (.tmp z .nil)) ⟨(vl av ax ay), (vl az aA aC), (vl aD aE aF), z, (se_ aj z z), (Sl.outI fl aj low0 O0_A), (Sl.outI fm aj low0 O0_A), (Sl.outI fn aj low0 O0_A)⟩
theorem c_rollup_Roll {A : Nat → Prop} {a0 : List api_Point} {v0 : Value} {a1 : Int} {w : World} (hs0 : Sl rep_api_Point w A v0 a0) {r0 : List api_Point} {r1 : Int} {r2 : Int} (h : rollup_Roll a0 a1 = some (r0, r1, r2)) : Rets Tryz.prog 8 [v0, vi a1] w (fun v w' => ∃ (u0 : Value), v = tp [u0, vi r1, vi r2] ∧ Ext w w' ∧ Sl rep_api_Point w' (fun k => A k ∨ w.heap.size ≤ k) u0 r0) := by
 unfold rollup_Roll at h
 refine Rets.enter Tryz.func8 z z ?_
 have bt : Sl rep_api_Point w (imm (Lg.O0 A)) v0 a0 := (Sl.start hs0)
 refine (show WC _ _ _ _ [(0, v0), (1, vi a1)] _ from ?_)
 refine sq (rg (wY (ya z) z (wY (ya z) z (wY (ya z) z (nl (th (sq (sq (rg ?_)))))))))
 refine wY (ym z) z (wY (Y.lss_i z z) z (nl (th ?_)))
 rcases cnd h with ⟨a2, h⟩ | ⟨a2, h⟩
 ·refine WC.condT' z a2 (sq (rg (wY (ya z) z (wY (ya z) z (wY (ya z) z (nl (th (rt (At.thenR ?_)))))))))
  obtain ⟨rfl, rfl, rfl⟩ := tup3 h
  have es : Stp [] (Lg.O0 A) w (Lg.O0 A) w := (sr_ _ _ _)
  exact At.res (.inl z) z (.tmp z (.tmp z (.tmp z .nil))) ⟨sn, z, (se_ es z z), (Or.inl ⟨z, z⟩)⟩
 ·refine WC.condF' z a2 (sk (th (sq (rg (wY (ya z) z (nl (th (sq (sq ?_)))))))))
  refine rg (wY (ym z) z (wY (Y.len ty22 z bt) z (wY (ym z) z (nl (th (WC.block ?_))))))
  obtain ⟨em, h, a3⟩ := flow1 h
  obtain ⟨en, h⟩ := loop_some h
  refine WC.joinB 0 (σ := (List api_Point × Own × Value)) (fun x w' => em = .go x.1 ∧ Stp [11, 12, 13, 14, 16, 1001, 1002] (Lg.O0 A) w x.2.1 w' ∧ OwnSl 1003 rep_api_Point 40 x.2.1 w' x.2.2 x.1) (fun x => [(7, x.2.2)]) ?_ ?_
  ·refine WC.loop (σ := (List api_Point × Int × Own × Value)) (fun x k w' => loopN k (rollup_Roll_lp1 a0 a1) (x.1, x.2.1) = some em ∧ Stp [11, 12, 13, 14, 16, 1001, 1002] (Lg.O0 A) w x.2.2.1 w' ∧ OwnSl 1002 rep_api_Point 40 x.2.2.1 w' x.2.2.2 x.1) (fun x => [(0, v0), (1, vi a1), (7, x.2.2.2), (14, v0), (15, vi (a0.length : Int)), (16, vi x.2.1)]) ([], 0, (Lg.O0 A), sn) en (.cons z (.cons z (.cons z (.cons z (.cons z (.cons z .nil)))))) ⟨h, (sr_ _ _ _), (OwnSl.nil 1002 rep_api_Point 40)⟩ ?_
   rintro ⟨b9, J, eo, ae⟩ en et ⟨h, S, a4⟩
   obtain ⟨fw, gJ, rfl, h, az⟩ := rnd1 h
   unfold rollup_Roll_lp1 at h
   try dsimp only at h S a4
   refine (show WC _ _ _ _ [(0, v0), (1, vi a1), (7, ae), (14, v0), (15, vi (a0.length : Int)), (16, vi J)] _ from ?_)
   refine sq (rg (wY (Y.lss_i z z) z (nl (th (sq ?_)))))
   rcases cnd h with ⟨a5, h⟩ | ⟨a5, h⟩
   ·refine WC.condT' z a5 (sk (th (sq ?_)))
    obtain ⟨fx, h, a6⟩ := flow1 h
    refine WC.join (σ := (List api_Point × Own × Value)) (fun x w' => fx = .go x.1 ∧ Stp [11, 12, 13, 14, 1002] eo et x.2.1 w' ∧ OwnSl 1001 rep_api_Point 40 x.2.1 w' x.2.2 x.1) (fun x => [(0, v0), (1, vi a1), (7, x.2.2), (14, v0), (15, vi (a0.length : Int)), (16, vi J)]) ?_ ?_
    ·refine WC.block (sq (rg (wY (ym z) z ?_)))
     obtain ⟨K, eu, h⟩ := bnd h
     have bu := bt.i S z z
     obtain ⟨gK, fN, fO, gk, ew, ex, ey, a7, ca, ez⟩ := Sl.at2 bu eu
     obtain ⟨_, _, rfl, rfl, ⟨_, _, rfl, ⟨fy, rfl, eA⟩, ⟨_, _, rfl, rfl, ⟨_, _, rfl, rfl, ⟨_, _, rfl, rfl, ⟨_, _, rfl, rfl, ⟨_, _, rfl, rfl, ⟨_, _, rfl, rfl, ⟨_, _, rfl, rfl, ⟨_, _, rfl, rfl, ⟨_, _, rfl, ⟨_, _, rfl, rfl, ⟨_, _, rfl, rfl, ⟨_, _, rfl, ⟨_, _, rfl, rfl, ⟨fz, rfl, eB⟩⟩, ⟨_, _, rfl, rfl, ⟨fA, rfl, eC⟩⟩⟩⟩⟩, rfl⟩⟩⟩⟩⟩⟩⟩⟩⟩⟩⟩ := ca
     replace a7 : CellsAt _ _ _ (cp K fy fz fA) := a7
     have cb := CAt.imm a7 ez
     refine wY (Y.indexAddr ty22 ty40 z ew z ex ey) z (wY (yL ty40 z z cb.at_ z) z (WL.alloc (O := eo) 11 [vs [], sn, vi 0, vi 0, vB false, vi 0, vi 0, vi 0, vu 0, vu 0, vi 0, vu 0, vi 0, sn, vi 0, sn, vi 0] ty40 z z ?_))
     intro ay fB gl L eD
     refine wY (ya z) z ?_
     have bw := eA.i L z z
     have eE := h
     obtain ⟨T, U, V, rfl⟩ := bw.shape
     have h := eE
     have bx := eB.i L z z
     have eF := h
     obtain ⟨W, X, Z, rfl⟩ := bx.shape
     have h := eF
     have bz := eC.i L z z
     have eG := h
     obtain ⟨aa, ab, ac, rfl⟩ := bz.shape
     have h := eG
     refine WL.store (v := ag (cp K (vl T U V) (vl W X Z) (vl aa ab ac))) (cells' := (cp K (vl T U V) (vl W X Z) (vl aa ab ac))) ty40 z z eD z (le_ z) z z ?_
     intro gm M ap
     refine nl (th (sq (rg (wY (yL ty40 z z (ap.cells 0 (cp K (vl T U V) (vl W X Z) (vl aa ab ac)) z) z) z ?_))))
     have aA := bw.i M z z
     have aC := bx.i M z z
     have aD := bz.i M z z
     obtain ⟨aq, eH, h⟩ := bnd h
     refine WL.call (vals := [ag (cp K (vl T U V) (vl W X Z) (vl aa ab ac))]) kok17 z z (c_point_Check (A := fun _ => True) (a0 := K) (Sl.all aA) (Sl.all aC) (Sl.all aD) eH) ?_
     rintro gn bA ⟨rfl, eI⟩
     obtain ⟨bd, fC, fD, j⟩ := adoptE fB (fun k => 1) eI
     refine wY (ya z) z (nl (th (sq ?_)))
     obtain ⟨eJ, h, cc⟩ := bnd h
     refine WC.join (σ := (Int × Own)) (fun x w' => x.1 = eJ ∧ Stp [] bd bA x.2 w') (fun x => [(0, v0), (1, vi a1), (7, ae), (8, vi J), (9, pt ay 0), (10, vi x.1), (14, v0), (15, vi (a0.length : Int)), (16, vi J)]) ?_ ?_
     ·refine sq (rg (wY (ym z) z (wY (Y.eql_i z z) z (wY (ym z) z ?_))))
      refine WL.cut 3 (σ := Unit) (fun _ w' => bA = w') (fun _ => [(0, v0), (1, vi a1), (7, ae), (8, vi J), (9, pt ay 0), (10, vi aq), (14, v0), (15, vi (a0.length : Int)), (16, vi J), (28, vB ((decide (aq = 0)) && (decide (0 < J))))]) ?_ ?_
      ·refine WL.part 25 z (fun aE => ?_) (fun aE => ?_)
       ·refine ug z z (wY (ym z) z (ug z z (wY (Y.gtr_i z z) z (wY (Y.pick (b := true) z z) z (WL.ren (v' := vB ((decide (aq = 0)) && (decide (0 < J)))) 28 z (congrArg vB (andT aE)) ?_)))))
        exact nl (At.join () z (.cons z (.cons z (.cons z (.cons z (.cons z (.cons z (.cons z (.cons z (.cons z (.cons z .nil)))))))))))
       ·refine WL.gS z z z z (WL.gS z z z z (wY (Y.pick (b := false) z z) z (WL.ren (v' := vB ((decide (aq = 0)) && (decide (0 < J)))) 28 z (congrArg vB (andF aE)) ?_)))
        exact nl (At.join () z (.cons z (.cons z (.cons z (.cons z (.cons z (.cons z (.cons z (.cons z (.cons z (.cons z .nil)))))))))))
      ·rintro _ _ rfl
       refine (show WL _ _ _ _ _ [(0, v0), (1, vi a1), (7, ae), (8, vi J), (9, pt ay 0), (10, vi aq), (14, v0), (15, vi (a0.length : Int)), (16, vi J), (28, vB ((decide (aq = 0)) && (decide (0 < J))))] _ from ?_)
       refine nl (th ?_)
       rcases cnd h with ⟨aF, h⟩ | ⟨aF, h⟩
       ·refine WC.condT' z aF (WC.draw 6 bd fmix (by kernel_rfl) ?_)
        intro fP Q
        refine WS.y (ym z) z (WS.y (ym z) z (WS.y (Y.sub_i z z) z ?_))
        obtain ⟨a8, cd, h⟩ := bnd h
        have ch := (((bu.i L z z).i M z z).i j z z).i Q z z
        obtain ⟨gp, fF, fG, fQ, ci, cj, ck, aG, bB, cl⟩ := Sl.at2 ch cd
        obtain ⟨_, _, rfl, rfl, ⟨_, _, rfl, ⟨bC, rfl, cm⟩, ⟨_, _, rfl, rfl, ⟨_, _, rfl, rfl, ⟨_, _, rfl, rfl, ⟨_, _, rfl, rfl, ⟨_, _, rfl, rfl, ⟨_, _, rfl, rfl, ⟨_, _, rfl, rfl, ⟨_, _, rfl, rfl, ⟨_, _, rfl, ⟨_, _, rfl, rfl, ⟨_, _, rfl, rfl, ⟨_, _, rfl, ⟨_, _, rfl, rfl, ⟨bD, rfl, cn⟩⟩, ⟨_, _, rfl, rfl, ⟨bE, rfl, co⟩⟩⟩⟩⟩, rfl⟩⟩⟩⟩⟩⟩⟩⟩⟩⟩⟩ := bB
        replace aG : CellsAt _ _ _ (cp a8 bC bD bE) := aG
        have bF := CAt.imm aG cl
        refine WS.y (Y.indexAddr ty22 ty40 z ci z cj ck) z (WS.y (yL ty40 z z bF.at_ z) z ?_)
        have cr := (ap.st j z).st Q z
        refine WS.y (yL ty40 z z (cr.cells 0 (cp K (vl T U V) (vl W X Z) (vl aa ab ac)) z) z) z (WS.tail ?_)
        have ct := (aA.i j z z).i Q z z
        have cv := (aC.i j z z).i Q z z
        have cx := (aD.i j z z).i Q z z
        obtain ⟨eK, cy, h⟩ := bnd h
        refine WL.call (vals := [ag (cp a8 bC bD bE), ag (cp K (vl T U V) (vl W X Z) (vl aa ab ac))]) kok21 z z (c_rollup_fits (A := fun _ => True) (a0 := a8) (a1 := K) (Sl.all cm) (Sl.all cn) (Sl.all co) (Sl.all ct) (Sl.all cv) (Sl.all cx) cy) ?_
        rintro fR fT ⟨rfl, cz⟩
        obtain ⟨eL, fn, fo, bG⟩ := adoptE bd (fun k => 1) cz
        refine wY (ya z) z (nl ?_)
        exact At.join (σ := (Int × Own)) (eK, eL) ⟨some1 h, (tr_ (su_ Q z) (su_ bG z))⟩ (.cons z (.cons z (.cons z (.cons z (.cons z (.cons z (.cons z (.cons z (.cons z .nil)))))))))
       ·refine WC.condF' z aF (sk ?_)
        exact At.join (σ := (Int × Own)) (aq, bd) ⟨some1 h, (sr_ _ _ _)⟩ (.cons z (.cons z (.cons z (.cons z (.cons z (.cons z (.cons z (.cons z (.cons z .nil)))))))))
     ·rintro ⟨fH, aU⟩ eM ⟨rfl, n⟩
      replace h := cc
      try dsimp only at h n
      refine (show At _ _ _ [(0, v0), (1, vi a1), (7, ae), (8, vi J), (9, pt ay 0), (10, vi fH), (14, v0), (15, vi (a0.length : Int)), (16, vi J)] _ from ?_)
      refine th (sq (sq (rg (wY (ym z) z (wY (Y.neq_i z z) z (nl (th ?_)))))))
      rcases cnd h with ⟨aH, h⟩ | ⟨aH, h⟩
      ·refine WC.condT' z aH (sq (rg (wY (ym z) z (wY (ym z) z (wY (ya z) z (wY (ya z) z (wY (ya z) z (nl (th ?_)))))))))
       refine rt (At.thenR (At.inBlockR ?_))
       have h := outs1 h a6
       refine At.joinR (At.thenR (At.loopR ?_))
       have h := outr1 h az a3
       refine At.joinBR (At.inBlockR (At.thenR ?_))
       obtain ⟨rfl, rfl, rfl⟩ := tup3 h
       have cA : Stp [11, 12, 13, 14, 16, 1001, 1002] (Lg.O0 A) w aU eM := (tr_ (su_ S z) (tr_ (su_ L z) (tr_ (su_ M z) (tr_ (su_ j z) (su_ n z)))))
       exact At.res (.inl z) z (.tmp z (.tmp z (.tmp z .nil))) ⟨sn, z, (se_ cA z z), (Or.inl ⟨z, z⟩)⟩
      ·refine WC.condF' z aH (sk (th (sq (rg (wY (ym z) z ?_)))))
       have ao := (((a4.st L z z z).st M z z z).st j z z z).st n z z z
       refine wY (Y.len ty22 z ao.src.sl) z ?_
       obtain ⟨bf, bH, h⟩ := lt1 h
       refine WL.yE (ya z) (congrArg vi bH.symm) z (nl (th (sq (sq (WC.drawH [] [0, 1, 2, 3, 4, 5, 6, 7, 8, 9, 10, 11, 12, 13, 14, 15, 16] aU 17 fmix z (by kernel_rfl) ?_)))))
       intro cF l
       refine WD.y 0 z (by kernel_rfl) (fun _ _ _ => ym z) z (WD.y 1 z (by kernel_rfl) (fun _ _ _ => Y.eql_i z z) z (WD.y 2 z (by kernel_rfl) (fun _ _ _ => ym z) z ?_))
       obtain ⟨eN, h, cG⟩ := bnd h
       refine WD.join (σ := (Bool × Own)) (f' := 0) [16, 15, 14, 10, 13, 12, 11, 9, 8, 7, 6, 5, 4, 3, 2, 1, 0] (fun x O' w' => x.1 = eN ∧ Stp [] aU cF x.2 w' ∧ x.2 = O') (fun x => [(0, v0), (1, vi a1), (7, ae), (8, vi J), (9, pt ay 0), (11, vi bf), (14, v0), (15, vi (a0.length : Int)), (16, vi J), (58, vB x.1)]) (fun bg => ?_) ?_
       ·rcases cnd h with ⟨af, h⟩ | ⟨af, h⟩
        ·refine WD.ren 44 z (congrArg vB af) (WD.gS 3 z (by kernel_rfl) z z z z (WD.gS 4 z (by kernel_rfl) z z z z (WD.gS 5 z (by kernel_rfl) z z z z (WD.gS 6 z (by kernel_rfl) z z z z (WD.gS 7 z (by kernel_rfl) z z z z (WD.gS 8 z (by kernel_rfl) z z z z (WD.gS 9 z (by kernel_rfl) z z z z (WD.gS 11 z (by kernel_rfl) z z z z (WD.gS 12 z (by kernel_rfl) z z z z ?_)))))))))
         refine WD.gS 13 z (by kernel_rfl) z z z z (WD.heavy 10 z (by kernel_rfl) (WL.gS z z z z (nl (At.dq (sr_ _ _ _) (WD.heavy 14 z (by kernel_rfl) (WL.gS z z z z (nl (At.dq (sr_ _ _ _) (WD.gS 15 z (by kernel_rfl) z z z z ?_)))))))))
         refine WD.y 16 z (by kernel_rfl) (fun _ _ _ => Y.pick (b := true) z z) z (WD.ren 44 z (congrArg vB af.symm) ?_)
         exact bg (true, aU) _ _ _ ⟨some1 h, (sr_ _ _ _), z⟩ (.cons z (.cons z (.cons z (.cons z (.cons z (.cons z (.cons z (.cons z (.cons z (.cons z .nil))))))))))
        ·refine WD.ren 44 z (congrArg vB af) (WD.gT 3 z (by kernel_rfl) z z (fun _ _ _ => ym z) z (WD.gT 4 z (by kernel_rfl) z z (fun _ _ _ => ym z) z (WD.gT 5 z (by kernel_rfl) z z (fun _ _ _ => Y.sub_i z z) z ?_)))
         obtain ⟨a9, cH, h⟩ := bnd h
         have bh := ao.st l z z z
         obtain ⟨gq, fI, fU, bi, cI, cJ, aI, bI⟩ := OwnSl.at bh cH
         obtain ⟨_, _, rfl, rfl, ⟨_, _, rfl, ⟨eO, rfl, fV⟩, ⟨_, _, rfl, rfl, ⟨_, _, rfl, rfl, ⟨_, _, rfl, rfl, ⟨_, _, rfl, rfl, ⟨_, _, rfl, rfl, ⟨_, _, rfl, rfl, ⟨_, _, rfl, rfl, ⟨_, _, rfl, rfl, ⟨_, _, rfl, ⟨_, _, rfl, rfl, ⟨_, _, rfl, rfl, ⟨_, _, rfl, ⟨_, _, rfl, rfl, ⟨eP, rfl, fY⟩⟩, ⟨_, _, rfl, rfl, ⟨eQ, rfl, f0⟩⟩⟩⟩⟩, rfl⟩⟩⟩⟩⟩⟩⟩⟩⟩⟩⟩ := bI
         replace aI : CellsAt _ _ _ (cp a9 eO eP eQ) := aI
         have bJ := CAt.own bh bi aI
         refine WD.gT 6 z (by kernel_rfl) z z (fun _ _ _ => Y.indexAddr ty22 ty40 z bi z cI cJ) z (WD.gT 7 z (by kernel_rfl) z z (fun _ _ _ => yf fo40_6 z) z (WD.gT 8 z (by kernel_rfl) z z (fun f1 gr bK => have cK := bJ.st bK z; yl ty3 z z (cK.at_.sub 6 [vi a9.Time] z)) z (WD.gT 9 z (by kernel_rfl) z z (fun _ _ _ => ym z) z (WD.gT 11 z (by kernel_rfl) z z (fun _ _ _ => yf fo40_6 z) z (WD.gT 12 z (by kernel_rfl) z z (fun f2 gs bL => have cL := ap.st j z; have cM := cL.st n z; have cN := cM.st l z; have cO := cN.st bL z; yl ty3 z z (cO.cell 6 _ z)) z (WD.gT 13 z (by kernel_rfl) z z (fun _ _ _ => ym z) z (WD.heavy 10 z (by kernel_rfl) (ug z z ?_))))))))
         obtain ⟨eR, cP, h⟩ := bnd h
         refine WL.call (vals := [vi a9.Time, vi a1]) kok15 z z (c_rollup_Window cP) ?_
         rintro f3 f4 ⟨rfl, cQ⟩
         obtain ⟨eS, fp, fq, aW⟩ := adoptE aU (fun k => 1) cQ
         refine nl (At.dq (su_ aW z) (WD.heavy 14 z (by kernel_rfl) (ug z z ?_)))
         obtain ⟨eT, cR, h⟩ := bnd h
         refine WL.call (vals := [vi K.Time, vi a1]) kok15 z z (c_rollup_Window cR) ?_
         rintro f5 f6 ⟨rfl, cS⟩
         obtain ⟨eU, fs, ft, aX⟩ := adoptE eS (fun k => 1) cS
         refine nl (At.dq (su_ aX z) (WD.gT 15 z (by kernel_rfl) z z (fun _ _ _ => Y.neq_i z z) z (WD.y 16 z (by kernel_rfl) (fun _ _ _ => Y.pick (b := false) z z) z (WD.ren 44 z (congrArg vB af.symm) ?_))))
         exact bg ((!decide (eR = eT)), eU) _ _ _ ⟨some1 h, (tr_ (su_ aW z) (su_ aX z)), z⟩ (.cons z (.cons z (.cons z (.cons z (.cons z (.cons z (.cons z (.cons z (.cons z (.cons z .nil))))))))))
       ·rintro ⟨eV, ad⟩ _ f7 ⟨rfl, m, rfl⟩
        replace h := cG
        try dsimp only at h m
        refine (show WD _ _ _ _ _ _ _ _ [(0, v0), (1, vi a1), (7, ae), (8, vi J), (9, pt ay 0), (11, vi bf), (14, v0), (15, vi (a0.length : Int)), (16, vi J), (58, vB eV)] _ _ from ?_)
        refine WD.done_ (by kernel_rfl) (th ?_)
        rcases cnd h with ⟨aJ, h⟩ | ⟨aJ, h⟩
        ·refine WC.condT' z aJ (sq (rg (wY (ym z) z ?_)))
         have cW := (((ap.st j z).st n z).st l z).st m z
         refine wY (yL ty40 z z (cW.cells 0 (cp K (vl T U V) (vl W X Z) (vl aa ab ac)) z) z) z ?_
         have c0 := (((aA.i j z z).i n z z).i l z z).i m z z
         have c4 := (((aC.i j z z).i n z z).i l z z).i m z z
         have c8 := (((aD.i j z z).i n z z).i l z z).i m z z
         obtain ⟨c, c9, h⟩ := bnd h
         refine WL.call (vals := [ag (cp K (vl T U V) (vl W X Z) (vl aa ab ac))]) kok22 z z (c_point_Clone (A := fun _ => True) (a0 := K) (Sl.all c0) (Sl.all c4) (Sl.all c8) c9) ?_
         rintro f8 aK ⟨aL, ba, bM, rfl, da, eW, eX, eY, eZ, e0, e1⟩
         obtain ⟨bb, fu, al, aY⟩ := adoptE ad (fun k => if ob aL = some k then 12 else if ob ba = some k then 13 else if ob bM = some k then 14 else 1) da
         have bj : OwnSl 12 rep_api_Pair 67 bb aK aL c.Attrs := RowF.adopt 12 flat_api_Pair eW al (fun k hk => if_pos hk)
         have bk : OwnSl 13 Rep.u 33 bb aK ba c.Hist.Pos.Counts := RowF.adopt 13 Flat.u eX al (fun k hk => (if_neg (fun (e : ob aL = some k) => eZ k e hk)).trans (if_pos hk))
         have bl : OwnSl 14 Rep.u 33 bb aK bM c.Hist.Neg.Counts := RowF.adopt 14 Flat.u eY al (fun k hk => (if_neg (fun (e : ob aL = some k) => e0 k e hk)).trans ((if_neg (fun (e : ob ba = some k) => e1 k e hk)).trans (if_pos hk)))
         have db := h
         obtain ⟨ar, au, av, rfl⟩ := bj.shape
         have h := db
         have dc := h
         obtain ⟨o, p, q, rfl⟩ := bk.shape
         have h := dc
         have dd := h
         obtain ⟨r, t, C, rfl⟩ := bl.shape
         have h := dd
         obtain ⟨gt, ah, de⟩ := OwnSl.giveF rfl flat_api_Pair bj
         have df := bk.st ah z z z
         obtain ⟨gu, ai, dg⟩ := OwnSl.giveF rfl Flat.u df
         have di := (bl.st ah z z z).st ai z z z
         obtain ⟨e2, aj, dj⟩ := OwnSl.giveF rfl Flat.u di
         have dl := (de.f ai z).f aj z
         have dm := dg.f aj z
         refine WL.buildSlice (O := e2) (R := rep_api_Point) (vals := [(0, ag (cp c (vl ar au av) (vl o p q) (vl r t C)))]) 15 (cp c (vl ar au av) (vl o p q) (vl r t C)) (xs := [c]) (by decide) ty22 ty40 (by decide) (by decide) (fe_ z) (by kernel_rfl) z ⟨(cp c (vl ar au av) (vl o p q) (vl r t C)), [], z, ⟨[vs c.Name], [(vl ar au av), vi c.Kind, vi c.Temp, vB c.Mono, vi c.Start, vi c.Time, vi c.Int_, vu c.Re, vu c.Im, vi c.Hist.Scale, vu c.Hist.Zero, vi c.Hist.Pos.Offset, (vl o p q), vi c.Hist.Neg.Offset, (vl r t C), vi c.Flags], z, z, ⟨[(vl ar au av)], [vi c.Kind, vi c.Temp, vB c.Mono, vi c.Start, vi c.Time, vi c.Int_, vu c.Re, vu c.Im, vi c.Hist.Scale, vu c.Hist.Zero, vi c.Hist.Pos.Offset, (vl o p q), vi c.Hist.Neg.Offset, (vl r t C), vi c.Flags], z, ⟨_, z, (Sl.mono dl frs_imm)⟩, ⟨[vi c.Kind], [vi c.Temp, vB c.Mono, vi c.Start, vi c.Time, vi c.Int_, vu c.Re, vu c.Im, vi c.Hist.Scale, vu c.Hist.Zero, vi c.Hist.Pos.Offset, (vl o p q), vi c.Hist.Neg.Offset, (vl r t C), vi c.Flags], z, z, ⟨[vi c.Temp], [vB c.Mono, vi c.Start, vi c.Time, vi c.Int_, vu c.Re, vu c.Im, vi c.Hist.Scale, vu c.Hist.Zero, vi c.Hist.Pos.Offset, (vl o p q), vi c.Hist.Neg.Offset, (vl r t C), vi c.Flags], z, z, ⟨[vB c.Mono], [vi c.Start, vi c.Time, vi c.Int_, vu c.Re, vu c.Im, vi c.Hist.Scale, vu c.Hist.Zero, vi c.Hist.Pos.Offset, (vl o p q), vi c.Hist.Neg.Offset, (vl r t C), vi c.Flags], z, z, ⟨[vi c.Start], [vi c.Time, vi c.Int_, vu c.Re, vu c.Im, vi c.Hist.Scale, vu c.Hist.Zero, vi c.Hist.Pos.Offset, (vl o p q), vi c.Hist.Neg.Offset, (vl r t C), vi c.Flags], z, z, ⟨[vi c.Time], [vi c.Int_, vu c.Re, vu c.Im, vi c.Hist.Scale, vu c.Hist.Zero, vi c.Hist.Pos.Offset, (vl o p q), vi c.Hist.Neg.Offset, (vl r t C), vi c.Flags], z, z, ⟨[vi c.Int_], [vu c.Re, vu c.Im, vi c.Hist.Scale, vu c.Hist.Zero, vi c.Hist.Pos.Offset, (vl o p q), vi c.Hist.Neg.Offset, (vl r t C), vi c.Flags], z, z, ⟨[vu c.Re], [vu c.Im, vi c.Hist.Scale, vu c.Hist.Zero, vi c.Hist.Pos.Offset, (vl o p q), vi c.Hist.Neg.Offset, (vl r t C), vi c.Flags], z, z, ⟨[vu c.Im], [vi c.Hist.Scale, vu c.Hist.Zero, vi c.Hist.Pos.Offset, (vl o p q), vi c.Hist.Neg.Offset, (vl r t C), vi c.Flags], z, z, ⟨(hl c.Hist (vl o p q) (vl r t C)), [vi c.Flags], z, ⟨[vi c.Hist.Scale], [vu c.Hist.Zero, vi c.Hist.Pos.Offset, (vl o p q), vi c.Hist.Neg.Offset, (vl r t C)], z, z, ⟨[vu c.Hist.Zero], [vi c.Hist.Pos.Offset, (vl o p q), vi c.Hist.Neg.Offset, (vl r t C)], z, z, ⟨[vi c.Hist.Pos.Offset, (vl o p q)], [vi c.Hist.Neg.Offset, (vl r t C)], z, ⟨[vi c.Hist.Pos.Offset], [(vl o p q)], z, z, ⟨_, z, (Sl.mono dm frs_imm)⟩⟩, ⟨[vi c.Hist.Neg.Offset], [(vl r t C)], z, z, ⟨_, z, (Sl.mono dj frs_imm)⟩⟩⟩⟩⟩, z⟩⟩⟩⟩⟩⟩⟩⟩⟩⟩⟩, z⟩ z ?_
         intro gw gz f9 aZ dn
         obtain ⟨dp, bO, h⟩ := bnd h
         have dy := ((((((ao.st l z z z).st m z z z).st aY z z z).st ah z z z).st ai z z z).st aj z z z).st aZ z z z
         refine WL.append (by decide) ty22 ty40 z (by decide) z z dy dn.src bO z ?_
         intro e5 gB ga bP dz
         refine wY (ya z) z (nl (th (WC.exit (At.thenX (At.inBlockHit ?_)))))
         obtain ⟨e6, bQ, dA⟩ := OwnSl.rlb 1001 rfl dz
         exact At.join (σ := (List api_Point × Own × Value)) (dp, e6, e5) ⟨go2 h, (tr_ (su_ L z) (tr_ (su_ M z) (tr_ (su_ j z) (tr_ (su_ n z) (tr_ (su_ l z) (tr_ (su_ m z) (tr_ (su_ aY z) (tr_ (su_ ah z) (tr_ (su_ ai z) (tr_ (su_ aj z) (tr_ (su_ aZ z) (tr_ (su_ bP z) (su_ bQ z))))))))))))), dA⟩ (.cons z (.cons z (.cons z (.cons z (.cons z (.cons z .nil))))))
        ·refine WC.condF' z aJ (sk (th (sq (WC.drawH [1002] [0, 1, 2, 3, 4, 5, 6, 7, 8, 9, 10, 11, 12, 13, 14, 15] ad 16 fmix z (by kernel_rfl) ?_))))
         intro gb P
         refine WD.y 0 z (by kernel_rfl) (fun _ _ _ => ym z) z (WD.y 1 z (by kernel_rfl) (fun _ _ _ => ym z) z (WD.y 2 z (by kernel_rfl) (fun _ _ _ => Y.sub_i z z) z (WD.y 3 z (by kernel_rfl) (fun _ _ _ => ym z) z (WD.y 4 z (by kernel_rfl) (fun _ _ _ => ym z) z (WD.y 5 z (by kernel_rfl) (fun _ _ _ => Y.sub_i z z) z ?_)))))
         obtain ⟨bc, dB, h⟩ := bnd h
         have aM := ((ao.st l z z z).st m z z z).st P z z z
         obtain ⟨gC, fJ, gc, bm, dE, dF, aN, bR⟩ := OwnSl.at aM dB
         obtain ⟨_, _, rfl, rfl, ⟨_, _, rfl, ⟨bS, rfl, dG⟩, ⟨_, _, rfl, rfl, ⟨_, _, rfl, rfl, ⟨_, _, rfl, rfl, ⟨_, _, rfl, rfl, ⟨_, _, rfl, rfl, ⟨_, _, rfl, rfl, ⟨_, _, rfl, rfl, ⟨_, _, rfl, rfl, ⟨_, _, rfl, ⟨_, _, rfl, rfl, ⟨_, _, rfl, rfl, ⟨_, _, rfl, ⟨_, _, rfl, rfl, ⟨bT, rfl, dH⟩⟩, ⟨_, _, rfl, rfl, ⟨bU, rfl, dI⟩⟩⟩⟩⟩, rfl⟩⟩⟩⟩⟩⟩⟩⟩⟩⟩⟩ := bR
         replace aN : CellsAt _ _ _ (cp bc bS bT bU) := aN
         have bW := CAt.own aM bm aN
         refine WD.y 6 z (by kernel_rfl) (fun _ _ _ => Y.indexAddr ty22 ty40 z bm z dE dF) z (WD.y 8 z (by kernel_rfl) (fun gd gE bX => have dJ := ap.st j z; have dK := dJ.st n z; have dL := dK.st l z; have dM := dL.st m z; have dN := dM.st P z; have dO := dN.st bX z; yL ty40 z z (dO.cells 0 (cp K (vl T U V) (vl W X Z) (vl aa ab ac)) z) z) z (WD.heavy 7 z (by kernel_rfl) (wY (yL ty40 z z bW.at_ z) z (nl (At.dq (sr_ _ _ _) (WD.heavy 9 z (by kernel_rfl) ?_))))))
         have dT := ((((aA.i j z z).i n z z).i l z z).i m z z).i P z z
         have dY := ((((aC.i j z z).i n z z).i l z z).i m z z).i P z z
         have d3 := ((((aD.i j z z).i n z z).i l z z).i m z z).i P z z
         obtain ⟨⟨d, gG⟩, d4, h⟩ := bnd h
         refine WL.call (vals := [ag (cp bc bS bT bU), ag (cp K (vl T U V) (vl W X Z) (vl aa ab ac))]) kok23 z z (c_rollup_join (A := imm ad) (a0 := bc) (a1 := K) dG dH dI dT dY d3 d4) ?_
         rintro ge aO ⟨e7, e8, e9, rfl, d5, fa, fc, fd⟩
         obtain ⟨aP, am, an, ak⟩ := adoptE ad (fun k => 1) d5
         have bn : Sl rep_api_Pair aO (imm aP) e7 d.Attrs := Sl.adoptI (O := ad) fa (fun _ hk => hk) (fun _ _ => Nat.le_refl _) am an
         have bo : Sl Rep.u aO (imm aP) e8 d.Hist.Pos.Counts := Sl.adoptI (O := ad) fc (fun _ hk => hk) (fun _ _ => Nat.le_refl _) am an
         have bp : Sl Rep.u aO (imm aP) e9 d.Hist.Neg.Counts := Sl.adoptI (O := ad) fd (fun _ hk => hk) (fun _ _ => Nat.le_refl _) am an
         refine nl (At.dq (su_ ak z) (WD.y 10 z (by kernel_rfl) (fun _ _ _ => ym z) z (WD.y 11 z (by kernel_rfl) (fun _ _ _ => yx z z) z (WD.y 12 z (by kernel_rfl) (fun _ _ _ => yx z z) z ?_))))
         obtain ⟨fe, d6, h⟩ := bnd h
         have aQ := aM.st ak z z z
         obtain ⟨gH, fK, gf, aR, d7, d8, aS, bY⟩ := OwnSl.at aQ d6
         obtain ⟨_, _, rfl, rfl, ⟨_, _, rfl, ⟨ff, rfl, gg⟩, ⟨_, _, rfl, rfl, ⟨_, _, rfl, rfl, ⟨_, _, rfl, rfl, ⟨_, _, rfl, rfl, ⟨_, _, rfl, rfl, ⟨_, _, rfl, rfl, ⟨_, _, rfl, rfl, ⟨_, _, rfl, rfl, ⟨_, _, rfl, ⟨_, _, rfl, rfl, ⟨_, _, rfl, rfl, ⟨_, _, rfl, ⟨_, _, rfl, rfl, ⟨fg, rfl, gh⟩⟩, ⟨_, _, rfl, rfl, ⟨fh, rfl, gi⟩⟩⟩⟩⟩, rfl⟩⟩⟩⟩⟩⟩⟩⟩⟩⟩⟩ := bY
         replace aS : CellsAt _ _ _ (cp fe ff fg fh) := aS
         have fL := CAt.own aQ aR aS
         refine WD.y 13 z (by kernel_rfl) (fun _ _ _ => Y.indexAddr ty22 ty40 z aR z d7 d8) z (WD.heavy 14 z (by kernel_rfl) ?_)
         have d9 := h
         obtain ⟨bZ, b0, b1, rfl⟩ := bn.shape
         have h := d9
         have ea := h
         obtain ⟨D, E, F, rfl⟩ := bo.shape
         have h := ea
         have eb := h
         obtain ⟨G, H, I, rfl⟩ := bp.shape
         have h := eb
         obtain ⟨ec, b2, h⟩ := bnd h
         refine WL.storeOwn (R := rep_api_Point) (u := d) (by decide) ty40 z z ⟨[vs d.Name], [(vl bZ b0 b1), vi d.Kind, vi d.Temp, vB d.Mono, vi d.Start, vi d.Time, vi d.Int_, vu d.Re, vu d.Im, vi d.Hist.Scale, vu d.Hist.Zero, vi d.Hist.Pos.Offset, (vl D E F), vi d.Hist.Neg.Offset, (vl G H I), vi d.Flags], z, z, ⟨[(vl bZ b0 b1)], [vi d.Kind, vi d.Temp, vB d.Mono, vi d.Start, vi d.Time, vi d.Int_, vu d.Re, vu d.Im, vi d.Hist.Scale, vu d.Hist.Zero, vi d.Hist.Pos.Offset, (vl D E F), vi d.Hist.Neg.Offset, (vl G H I), vi d.Flags], z, ⟨_, z, bn⟩, ⟨[vi d.Kind], [vi d.Temp, vB d.Mono, vi d.Start, vi d.Time, vi d.Int_, vu d.Re, vu d.Im, vi d.Hist.Scale, vu d.Hist.Zero, vi d.Hist.Pos.Offset, (vl D E F), vi d.Hist.Neg.Offset, (vl G H I), vi d.Flags], z, z, ⟨[vi d.Temp], [vB d.Mono, vi d.Start, vi d.Time, vi d.Int_, vu d.Re, vu d.Im, vi d.Hist.Scale, vu d.Hist.Zero, vi d.Hist.Pos.Offset, (vl D E F), vi d.Hist.Neg.Offset, (vl G H I), vi d.Flags], z, z, ⟨[vB d.Mono], [vi d.Start, vi d.Time, vi d.Int_, vu d.Re, vu d.Im, vi d.Hist.Scale, vu d.Hist.Zero, vi d.Hist.Pos.Offset, (vl D E F), vi d.Hist.Neg.Offset, (vl G H I), vi d.Flags], z, z, ⟨[vi d.Start], [vi d.Time, vi d.Int_, vu d.Re, vu d.Im, vi d.Hist.Scale, vu d.Hist.Zero, vi d.Hist.Pos.Offset, (vl D E F), vi d.Hist.Neg.Offset, (vl G H I), vi d.Flags], z, z, ⟨[vi d.Time], [vi d.Int_, vu d.Re, vu d.Im, vi d.Hist.Scale, vu d.Hist.Zero, vi d.Hist.Pos.Offset, (vl D E F), vi d.Hist.Neg.Offset, (vl G H I), vi d.Flags], z, z, ⟨[vi d.Int_], [vu d.Re, vu d.Im, vi d.Hist.Scale, vu d.Hist.Zero, vi d.Hist.Pos.Offset, (vl D E F), vi d.Hist.Neg.Offset, (vl G H I), vi d.Flags], z, z, ⟨[vu d.Re], [vu d.Im, vi d.Hist.Scale, vu d.Hist.Zero, vi d.Hist.Pos.Offset, (vl D E F), vi d.Hist.Neg.Offset, (vl G H I), vi d.Flags], z, z, ⟨[vu d.Im], [vi d.Hist.Scale, vu d.Hist.Zero, vi d.Hist.Pos.Offset, (vl D E F), vi d.Hist.Neg.Offset, (vl G H I), vi d.Flags], z, z, ⟨(hl d.Hist (vl D E F) (vl G H I)), [vi d.Flags], z, ⟨[vi d.Hist.Scale], [vu d.Hist.Zero, vi d.Hist.Pos.Offset, (vl D E F), vi d.Hist.Neg.Offset, (vl G H I)], z, z, ⟨[vu d.Hist.Zero], [vi d.Hist.Pos.Offset, (vl D E F), vi d.Hist.Neg.Offset, (vl G H I)], z, z, ⟨[vi d.Hist.Pos.Offset, (vl D E F)], [vi d.Hist.Neg.Offset, (vl G H I)], z, ⟨[vi d.Hist.Pos.Offset], [(vl D E F)], z, z, ⟨_, z, bo⟩⟩, ⟨[vi d.Hist.Neg.Offset], [(vl G H I)], z, z, ⟨_, z, bp⟩⟩⟩⟩⟩, z⟩⟩⟩⟩⟩⟩⟩⟩⟩⟩⟩ aQ aR b2 ?_
         intro ed ax ee
         refine nl (At.dq (su_ ax z) (WD.y 15 z (by kernel_rfl) (fun _ _ _ => ya z) z (WD.done_ (by kernel_rfl) (th (sq (rg (wY (ym z) z (wY (Y.neq_i z z) z (nl ?_)))))))))
         refine th ?_
         rcases cnd h with ⟨aT, h⟩ | ⟨aT, h⟩
         ·refine WC.condT' z aT (sq (rg (wY (ym z) z (wY (ym z) z (wY (ya z) z (wY (ya z) z (wY (ya z) z (nl (th ?_)))))))))
          refine rt (At.inBlockR ?_)
          have h := outs1 h a6
          refine At.joinR (At.thenR (At.loopR ?_))
          have h := outr1 h az a3
          refine At.joinBR (At.inBlockR (At.thenR ?_))
          obtain ⟨rfl, rfl, rfl⟩ := tup3 h
          have ef : Stp [11, 12, 13, 14, 16, 1001, 1002] (Lg.O0 A) w aP ed := (tr_ (su_ S z) (tr_ (su_ L z) (tr_ (su_ M z) (tr_ (su_ j z) (tr_ (su_ n z) (tr_ (su_ l z) (tr_ (su_ m z) (tr_ (su_ P z) (tr_ (su_ ak z) (su_ ax z))))))))))
          exact At.res (.inl z) z (.tmp z (.tmp z (.tmp z .nil))) ⟨sn, z, (se_ ef z z), (Or.inl ⟨z, z⟩)⟩
         ·refine WC.condF' z aT (sk (At.inBlock ?_))
          obtain ⟨fi, b3, eg⟩ := OwnSl.rlb 1001 rfl ee
          exact At.join (σ := (List api_Point × Own × Value)) (ec, fi, ae) ⟨go2 h, (tr_ (su_ L z) (tr_ (su_ M z) (tr_ (su_ j z) (tr_ (su_ n z) (tr_ (su_ l z) (tr_ (su_ m z) (tr_ (su_ P z) (tr_ (su_ ak z) (tr_ (su_ ax z) (su_ b3 z)))))))))), eg⟩ (.cons z (.cons z (.cons z (.cons z (.cons z (.cons z .nil))))))
    ·rintro ⟨eh, gL, ep⟩ gI ⟨rfl, bq, b4⟩
     replace h := flowK_go a6
     try dsimp only at h bq b4
     refine (show At _ _ _ [(0, v0), (1, vi a1), (7, ep), (14, v0), (15, vi (a0.length : Int)), (16, vi J)] _ from ?_)
     refine th (rg (wY (Y.add_i z z) z (wY (ym z) z (nl ?_))))
     obtain ⟨fj, b5, ei⟩ := OwnSl.rlb 1002 rfl b4
     exact At.round (eh, w64 (J + 1), fj, ep) fw (Nat.lt_succ_self _) ⟨next1 h az, (tr_ (su_ S z) (tr_ (su_ bq z) (su_ b5 z))), ei⟩ (.cons z (.cons z (.cons z (.cons z (.cons z (.cons z .nil))))))
   ·refine WC.condF' z a5 (WC.exit (At.thenX (At.loopX ?_)))
    obtain ⟨fk, b6, ej⟩ := OwnSl.rlb 1003 rfl a4
    exact At.hitB (σ := (List api_Point × Own × Value)) (b9, fk, ae) ⟨brk1 h az, (tr_ (su_ S z) (su_ b6 z)), ej⟩ (.cons z .nil)
  ·rintro ⟨gj, gM, er⟩ fl ⟨rfl, br, b7⟩
   replace h := flowK_go a3
   try dsimp only at h br b7
   refine (show At _ _ _ [(7, er)] _ from ?_)
   refine At.inBlockHit (th (sq (rg (wY (ym z) z (wY (ya z) z (wY (ya z) z (wY (ya z) z (nl (th ?_)))))))))
   refine rt ?_
   obtain ⟨rfl, rfl, rfl⟩ := tup3 h
   obtain ⟨fm, b8, ek⟩ := OwnSl.give rfl b7
   have bs : Stp [11, 12, 13, 14, 16, 1001, 1002, 1003] (Lg.O0 A) w fm fl := (tr_ (su_ br z) (su_ b8 z))
   exact At.res (.inl z) z (.tmp z (.tmp z (.tmp z .nil))) ⟨er, z, (se_ bs z z), (Sl.outI ek bs low0 O0_A)⟩
theorem c_law36_awake {w : World} {r0 : Bool} (h : law36_awake = some r0) : Rets Tryz.prog 6 [] w (fun v w' => v = vB r0 ∧ Ext w w') := by
 unfold law36_awake at h
 refine Rets.enter Tryz.func6 z z ?_
 refine (show WC _ _ _ _ [] _ from ?_)
 refine sq (rg (wY (ya z) z (nl (th (sq (rg (wY (yb (vals := [(0, vs [120]), (2, vi 1), (3, vi 2), (5, vi 5), (6, vi 10), (7, vi 5)]) (cells := [vs [120], sn, vi 1, vi 2, vB false, vi 5, vi 10, vi 5, vu 0, vu 0, vi 0, vu 0, vi 0, sn, vi 0, sn, vi 0]) (fe_ z) (by kernel_rfl)) z (WL.alloc (O := (Lg.O0 (fun _ => False))) 11 [vs [], sn, vi 0, vi 0, vB false, vi 0, vi 0, vi 0, vu 0, vu 0, vi 0, vu 0, vi 0, sn, vi 0, sn, vi 0] ty40 z z ?_))))))))
 intro c7 cf cS aA bj
 refine WL.store (v := Value.agg (List.toArray [vs [120], sn, vi 1, vi 2, vB false, vi 5, vi 10, vi 5, vu 0, vu 0, vi 0, vu 0, vi 0, sn, vi 0, sn, vi 0])) (cells' := [vs [120], sn, vi 1, vi 2, vB false, vi 5, vi 10, vi 5, vu 0, vu 0, vi 0, vu 0, vi 0, sn, vi 0, sn, vi 0]) ty40 z z bj z (le_ z) z z ?_
 intro cT aC bk
 refine nl (th (sq (rg (wY (yb (vals := [(0, vs [120]), (2, vi 1), (3, vi 2), (5, vi 10), (6, vi 12), (7, vi 3)]) (cells := [vs [120], sn, vi 1, vi 2, vB false, vi 10, vi 12, vi 3, vu 0, vu 0, vi 0, vu 0, vi 0, sn, vi 0, sn, vi 0]) (fe_ z) (by kernel_rfl)) z (WL.alloc (O := cf) 12 [vs [], sn, vi 0, vi 0, vB false, vi 0, vi 0, vi 0, vu 0, vu 0, vi 0, vu 0, vi 0, sn, vi 0, sn, vi 0] ty40 z z ?_)))))
 intro c8 cg cU aa bl
 refine WL.store (v := Value.agg (List.toArray [vs [120], sn, vi 1, vi 2, vB false, vi 10, vi 12, vi 3, vu 0, vu 0, vi 0, vu 0, vi 0, sn, vi 0, sn, vi 0])) (cells' := [vs [120], sn, vi 1, vi 2, vB false, vi 10, vi 12, vi 3, vu 0, vu 0, vi 0, vu 0, vi 0, sn, vi 0, sn, vi 0]) ty40 z z bl z (le_ z) z z ?_
 intro cV ab bm
 refine nl (th (sq (rg (wY (yb (vals := [(0, vs [120]), (2, vi 1), (3, vi 2), (5, vi 20), (6, vi 25), (7, vi 2)]) (cells := [vs [120], sn, vi 1, vi 2, vB false, vi 20, vi 25, vi 2, vu 0, vu 0, vi 0, vu 0, vi 0, sn, vi 0, sn, vi 0]) (fe_ z) (by kernel_rfl)) z (WL.alloc (O := cg) 13 [vs [], sn, vi 0, vi 0, vB false, vi 0, vi 0, vi 0, vu 0, vu 0, vi 0, vu 0, vi 0, sn, vi 0, sn, vi 0] ty40 z z ?_)))))
 intro c9 ch cW r bn
 refine WL.store (v := Value.agg (List.toArray [vs [120], sn, vi 1, vi 2, vB false, vi 20, vi 25, vi 2, vu 0, vu 0, vi 0, vu 0, vi 0, sn, vi 0, sn, vi 0])) (cells' := [vs [120], sn, vi 1, vi 2, vB false, vi 20, vi 25, vi 2, vu 0, vu 0, vi 0, vu 0, vi 0, sn, vi 0, sn, vi 0]) ty40 z z bn z (le_ z) z z ?_
 intro cX t bo
 refine nl (th (sq (rg ?_)))
 have ae := (((bk.st aa z).st ab z).st r z).st t z
 refine wY (yL ty40 z z (ae.cells 0 [vs [120], sn, vi 1, vi 2, vB false, vi 5, vi 10, vi 5, vu 0, vu 0, vi 0, vu 0, vi 0, sn, vi 0, sn, vi 0] z) z) z ?_
 have af := (bm.st r z).st t z
 refine wY (yL ty40 z z (af.cells 0 [vs [120], sn, vi 1, vi 2, vB false, vi 10, vi 12, vi 3, vu 0, vu 0, vi 0, vu 0, vi 0, sn, vi 0, sn, vi 0] z) z) z (wY (yL ty40 z z (bo.cells 0 [vs [120], sn, vi 1, vi 2, vB false, vi 20, vi 25, vi 2, vu 0, vu 0, vi 0, vu 0, vi 0, sn, vi 0, sn, vi 0] z) z) z (WL.buildSlice (O := ch) (R := rep_api_Point) (vals := [(0, Value.agg (List.toArray [vs [120], sn, vi 1, vi 2, vB false, vi 5, vi 10, vi 5, vu 0, vu 0, vi 0, vu 0, vi 0, sn, vi 0, sn, vi 0])), (1, Value.agg (List.toArray [vs [120], sn, vi 1, vi 2, vB false, vi 10, vi 12, vi 3, vu 0, vu 0, vi 0, vu 0, vi 0, sn, vi 0, sn, vi 0])), (2, Value.agg (List.toArray [vs [120], sn, vi 1, vi 2, vB false, vi 20, vi 25, vi 2, vu 0, vu 0, vi 0, vu 0, vi 0, sn, vi 0, sn, vi 0]))]) 14 [vs [120], sn, vi 1, vi 2, vB false, vi 5, vi 10, vi 5, vu 0, vu 0, vi 0, vu 0, vi 0, sn, vi 0, sn, vi 0, vs [120], sn, vi 1, vi 2, vB false, vi 10, vi 12, vi 3, vu 0, vu 0, vi 0, vu 0, vi 0, sn, vi 0, sn, vi 0, vs [120], sn, vi 1, vi 2, vB false, vi 20, vi 25, vi 2, vu 0, vu 0, vi 0, vu 0, vi 0, sn, vi 0, sn, vi 0] (xs := [(api_Point.mk [120] [] 1 2 false 5 10 5 0 0 (api_Hist.mk 0 0 (api_Side.mk 0 []) (api_Side.mk 0 [])) 0), (api_Point.mk [120] [] 1 2 false 10 12 3 0 0 (api_Hist.mk 0 0 (api_Side.mk 0 []) (api_Side.mk 0 [])) 0), (api_Point.mk [120] [] 1 2 false 20 25 2 0 0 (api_Hist.mk 0 0 (api_Side.mk 0 []) (api_Side.mk 0 [])) 0)]) (by decide) ty22 ty40 (by decide) (by decide) (fe_ z) (by kernel_rfl) z ⟨[vs [120], sn, vi 1, vi 2, vB false, vi 5, vi 10, vi 5, vu 0, vu 0, vi 0, vu 0, vi 0, sn, vi 0, sn, vi 0], [vs [120], sn, vi 1, vi 2, vB false, vi 10, vi 12, vi 3, vu 0, vu 0, vi 0, vu 0, vi 0, sn, vi 0, sn, vi 0, vs [120], sn, vi 1, vi 2, vB false, vi 20, vi 25, vi 2, vu 0, vu 0, vi 0, vu 0, vi 0, sn, vi 0, sn, vi 0], z, ⟨[vs [120]], [sn, vi 1, vi 2, vB false, vi 5, vi 10, vi 5, vu 0, vu 0, vi 0, vu 0, vi 0, sn, vi 0, sn, vi 0], z, z, ⟨[sn], [vi 1, vi 2, vB false, vi 5, vi 10, vi 5, vu 0, vu 0, vi 0, vu 0, vi 0, sn, vi 0, sn, vi 0], z, ⟨_, z, (Or.inl ⟨z, z⟩)⟩, ⟨[vi 1], [vi 2, vB false, vi 5, vi 10, vi 5, vu 0, vu 0, vi 0, vu 0, vi 0, sn, vi 0, sn, vi 0], z, z, ⟨[vi 2], [vB false, vi 5, vi 10, vi 5, vu 0, vu 0, vi 0, vu 0, vi 0, sn, vi 0, sn, vi 0], z, z, ⟨[vB false], [vi 5, vi 10, vi 5, vu 0, vu 0, vi 0, vu 0, vi 0, sn, vi 0, sn, vi 0], z, z, ⟨[vi 5], [vi 10, vi 5, vu 0, vu 0, vi 0, vu 0, vi 0, sn, vi 0, sn, vi 0], z, z, ⟨[vi 10], [vi 5, vu 0, vu 0, vi 0, vu 0, vi 0, sn, vi 0, sn, vi 0], z, z, ⟨[vi 5], [vu 0, vu 0, vi 0, vu 0, vi 0, sn, vi 0, sn, vi 0], z, z, ⟨[vu 0], [vu 0, vi 0, vu 0, vi 0, sn, vi 0, sn, vi 0], z, z, ⟨[vu 0], [vi 0, vu 0, vi 0, sn, vi 0, sn, vi 0], z, z, ⟨hzr, [vi 0], z, ⟨[vi 0], [vu 0, vi 0, sn, vi 0, sn], z, z, ⟨[vu 0], [vi 0, sn, vi 0, sn], z, z, ⟨[vi 0, sn], [vi 0, sn], z, ⟨[vi 0], [sn], z, z, ⟨_, z, (Or.inl ⟨z, z⟩)⟩⟩, ⟨[vi 0], [sn], z, z, ⟨_, z, (Or.inl ⟨z, z⟩)⟩⟩⟩⟩⟩, z⟩⟩⟩⟩⟩⟩⟩⟩⟩⟩⟩, ⟨[vs [120], sn, vi 1, vi 2, vB false, vi 10, vi 12, vi 3, vu 0, vu 0, vi 0, vu 0, vi 0, sn, vi 0, sn, vi 0], [vs [120], sn, vi 1, vi 2, vB false, vi 20, vi 25, vi 2, vu 0, vu 0, vi 0, vu 0, vi 0, sn, vi 0, sn, vi 0], z, ⟨[vs [120]], [sn, vi 1, vi 2, vB false, vi 10, vi 12, vi 3, vu 0, vu 0, vi 0, vu 0, vi 0, sn, vi 0, sn, vi 0], z, z, ⟨[sn], [vi 1, vi 2, vB false, vi 10, vi 12, vi 3, vu 0, vu 0, vi 0, vu 0, vi 0, sn, vi 0, sn, vi 0], z, ⟨_, z, (Or.inl ⟨z, z⟩)⟩, ⟨[vi 1], [vi 2, vB false, vi 10, vi 12, vi 3, vu 0, vu 0, vi 0, vu 0, vi 0, sn, vi 0, sn, vi 0], z, z, ⟨[vi 2], [vB false, vi 10, vi 12, vi 3, vu 0, vu 0, vi 0, vu 0, vi 0, sn, vi 0, sn, vi 0], z, z, ⟨[vB false], [vi 10, vi 12, vi 3, vu 0, vu 0, vi 0, vu 0, vi 0, sn, vi 0, sn, vi 0], z, z, ⟨[vi 10], [vi 12, vi 3, vu 0, vu 0, vi 0, vu 0, vi 0, sn, vi 0, sn, vi 0], z, z, ⟨[vi 12], [vi 3, vu 0, vu 0, vi 0, vu 0, vi 0, sn, vi 0, sn, vi 0], z, z, ⟨[vi 3], [vu 0, vu 0, vi 0, vu 0, vi 0, sn, vi 0, sn, vi 0], z, z, ⟨[vu 0], [vu 0, vi 0, vu 0, vi 0, sn, vi 0, sn, vi 0], z, z, ⟨[vu 0], [vi 0, vu 0, vi 0, sn, vi 0, sn, vi 0], z, z, ⟨hzr, [vi 0], z, ⟨[vi 0], [vu 0, vi 0, sn, vi 0, sn], z, z, ⟨[vu 0], [vi 0, sn, vi 0, sn], z, z, ⟨[vi 0, sn], [vi 0, sn], z, ⟨[vi 0], [sn], z, z, ⟨_, z, (Or.inl ⟨z, z⟩)⟩⟩, ⟨[vi 0], [sn], z, z, ⟨_, z, (Or.inl ⟨z, z⟩)⟩⟩⟩⟩⟩, z⟩⟩⟩⟩⟩⟩⟩⟩⟩⟩⟩, ⟨[vs [120], sn, vi 1, vi 2, vB false, vi 20, vi 25, vi 2, vu 0, vu 0, vi 0, vu 0, vi 0, sn, vi 0, sn, vi 0], [], z, ⟨[vs [120]], [sn, vi 1, vi 2, vB false, vi 20, vi 25, vi 2, vu 0, vu 0, vi 0, vu 0, vi 0, sn, vi 0, sn, vi 0], z, z, ⟨[sn], [vi 1, vi 2, vB false, vi 20, vi 25, vi 2, vu 0, vu 0, vi 0, vu 0, vi 0, sn, vi 0, sn, vi 0], z, ⟨_, z, (Or.inl ⟨z, z⟩)⟩, ⟨[vi 1], [vi 2, vB false, vi 20, vi 25, vi 2, vu 0, vu 0, vi 0, vu 0, vi 0, sn, vi 0, sn, vi 0], z, z, ⟨[vi 2], [vB false, vi 20, vi 25, vi 2, vu 0, vu 0, vi 0, vu 0, vi 0, sn, vi 0, sn, vi 0], z, z, ⟨[vB false], [vi 20, vi 25, vi 2, vu 0, vu 0, vi 0, vu 0, vi 0, sn, vi 0, sn, vi 0], z, z, ⟨[vi 20], [vi 25, vi 2, vu 0, vu 0, vi 0, vu 0, vi 0, sn, vi 0, sn, vi 0], z, z, ⟨[vi 25], [vi 2, vu 0, vu 0, vi 0, vu 0, vi 0, sn, vi 0, sn, vi 0], z, z, ⟨[vi 2], [vu 0, vu 0, vi 0, vu 0, vi 0, sn, vi 0, sn, vi 0], z, z, ⟨[vu 0], [vu 0, vi 0, vu 0, vi 0, sn, vi 0, sn, vi 0], z, z, ⟨[vu 0], [vi 0, vu 0, vi 0, sn, vi 0, sn, vi 0], z, z, ⟨hzr, [vi 0], z, ⟨[vi 0], [vu 0, vi 0, sn, vi 0, sn], z, z, ⟨[vu 0], [vi 0, sn, vi 0, sn], z, z, ⟨[vi 0, sn], [vi 0, sn], z, ⟨[vi 0], [sn], z, z, ⟨_, z, (Or.inl ⟨z, z⟩)⟩⟩, ⟨[vi 0], [sn], z, z, ⟨_, z, (Or.inl ⟨z, z⟩)⟩⟩⟩⟩⟩, z⟩⟩⟩⟩⟩⟩⟩⟩⟩⟩⟩, z⟩⟩⟩ z ?_))
 intro ci da cY C bt
 obtain ⟨ah, D, bu⟩ := OwnSl.give rfl bt
 obtain ⟨⟨S, db, ac⟩, bw, h⟩ := bnd h
 refine WL.call (vals := [ci, vi 20]) kok8 z z (c_rollup_Roll (A := imm ah) bu bw) ?_
 rintro cZ bx ⟨p, rfl, bz, cj⟩
 obtain ⟨bi, ai, aj, E⟩ := adoptE ah (fun k => 1) bz
 have q : Sl rep_api_Point bx (imm bi) p S := Sl.adoptI (O := ah) cj (fun _ hk => hk) (fun _ _ => Nat.le_refl _) ai aj
 refine wY (ym z) z (wY (yx z z) z (wY (yx z z) z (wY (yx z z) z (wY (ya z) z (wY (ya z) z (wY (ya z) z (nl (th (sq ?_)))))))))
 refine rg ?_
 have bC := ((af.st C z).st D z).st E z
 refine wY (yL ty40 z z (bC.cells 0 [vs [120], sn, vi 1, vi 2, vB false, vi 10, vi 12, vi 3, vu 0, vu 0, vi 0, vu 0, vi 0, sn, vi 0, sn, vi 0] z) z) z ?_
 have bF := ((ae.st C z).st D z).st E z
 refine wY (yL ty40 z z (bF.cells 0 [vs [120], sn, vi 1, vi 2, vB false, vi 5, vi 10, vi 5, vu 0, vu 0, vi 0, vu 0, vi 0, sn, vi 0, sn, vi 0] z) z) z (WL.buildSlice (O := bi) (R := rep_api_Point) (vals := [(0, Value.agg (List.toArray [vs [120], sn, vi 1, vi 2, vB false, vi 10, vi 12, vi 3, vu 0, vu 0, vi 0, vu 0, vi 0, sn, vi 0, sn, vi 0])), (1, Value.agg (List.toArray [vs [120], sn, vi 1, vi 2, vB false, vi 5, vi 10, vi 5, vu 0, vu 0, vi 0, vu 0, vi 0, sn, vi 0, sn, vi 0]))]) 15 [vs [120], sn, vi 1, vi 2, vB false, vi 10, vi 12, vi 3, vu 0, vu 0, vi 0, vu 0, vi 0, sn, vi 0, sn, vi 0, vs [120], sn, vi 1, vi 2, vB false, vi 5, vi 10, vi 5, vu 0, vu 0, vi 0, vu 0, vi 0, sn, vi 0, sn, vi 0] (xs := [(api_Point.mk [120] [] 1 2 false 10 12 3 0 0 (api_Hist.mk 0 0 (api_Side.mk 0 []) (api_Side.mk 0 [])) 0), (api_Point.mk [120] [] 1 2 false 5 10 5 0 0 (api_Hist.mk 0 0 (api_Side.mk 0 []) (api_Side.mk 0 [])) 0)]) (by decide) ty22 ty40 (by decide) (by decide) (fe_ z) (by kernel_rfl) z ⟨[vs [120], sn, vi 1, vi 2, vB false, vi 10, vi 12, vi 3, vu 0, vu 0, vi 0, vu 0, vi 0, sn, vi 0, sn, vi 0], [vs [120], sn, vi 1, vi 2, vB false, vi 5, vi 10, vi 5, vu 0, vu 0, vi 0, vu 0, vi 0, sn, vi 0, sn, vi 0], z, ⟨[vs [120]], [sn, vi 1, vi 2, vB false, vi 10, vi 12, vi 3, vu 0, vu 0, vi 0, vu 0, vi 0, sn, vi 0, sn, vi 0], z, z, ⟨[sn], [vi 1, vi 2, vB false, vi 10, vi 12, vi 3, vu 0, vu 0, vi 0, vu 0, vi 0, sn, vi 0, sn, vi 0], z, ⟨_, z, (Or.inl ⟨z, z⟩)⟩, ⟨[vi 1], [vi 2, vB false, vi 10, vi 12, vi 3, vu 0, vu 0, vi 0, vu 0, vi 0, sn, vi 0, sn, vi 0], z, z, ⟨[vi 2], [vB false, vi 10, vi 12, vi 3, vu 0, vu 0, vi 0, vu 0, vi 0, sn, vi 0, sn, vi 0], z, z, ⟨[vB false], [vi 10, vi 12, vi 3, vu 0, vu 0, vi 0, vu 0, vi 0, sn, vi 0, sn, vi 0], z, z, ⟨[vi 10], [vi 12, vi 3, vu 0, vu 0, vi 0, vu 0, vi 0, sn, vi 0, sn, vi 0], z, z, ⟨[vi 12], [vi 3, vu 0, vu 0, vi 0, vu 0, vi 0, sn, vi 0, sn, vi 0], z, z, ⟨[vi 3], [vu 0, vu 0, vi 0, vu 0, vi 0, sn, vi 0, sn, vi 0], z, z, ⟨[vu 0], [vu 0, vi 0, vu 0, vi 0, sn, vi 0, sn, vi 0], z, z, ⟨[vu 0], [vi 0, vu 0, vi 0, sn, vi 0, sn, vi 0], z, z, ⟨hzr, [vi 0], z, ⟨[vi 0], [vu 0, vi 0, sn, vi 0, sn], z, z, ⟨[vu 0], [vi 0, sn, vi 0, sn], z, z, ⟨[vi 0, sn], [vi 0, sn], z, ⟨[vi 0], [sn], z, z, ⟨_, z, (Or.inl ⟨z, z⟩)⟩⟩, ⟨[vi 0], [sn], z, z, ⟨_, z, (Or.inl ⟨z, z⟩)⟩⟩⟩⟩⟩, z⟩⟩⟩⟩⟩⟩⟩⟩⟩⟩⟩, ⟨[vs [120], sn, vi 1, vi 2, vB false, vi 5, vi 10, vi 5, vu 0, vu 0, vi 0, vu 0, vi 0, sn, vi 0, sn, vi 0], [], z, ⟨[vs [120]], [sn, vi 1, vi 2, vB false, vi 5, vi 10, vi 5, vu 0, vu 0, vi 0, vu 0, vi 0, sn, vi 0, sn, vi 0], z, z, ⟨[sn], [vi 1, vi 2, vB false, vi 5, vi 10, vi 5, vu 0, vu 0, vi 0, vu 0, vi 0, sn, vi 0, sn, vi 0], z, ⟨_, z, (Or.inl ⟨z, z⟩)⟩, ⟨[vi 1], [vi 2, vB false, vi 5, vi 10, vi 5, vu 0, vu 0, vi 0, vu 0, vi 0, sn, vi 0, sn, vi 0], z, z, ⟨[vi 2], [vB false, vi 5, vi 10, vi 5, vu 0, vu 0, vi 0, vu 0, vi 0, sn, vi 0, sn, vi 0], z, z, ⟨[vB false], [vi 5, vi 10, vi 5, vu 0, vu 0, vi 0, vu 0, vi 0, sn, vi 0, sn, vi 0], z, z, ⟨[vi 5], [vi 10, vi 5, vu 0, vu 0, vi 0, vu 0, vi 0, sn, vi 0, sn, vi 0], z, z, ⟨[vi 10], [vi 5, vu 0, vu 0, vi 0, vu 0, vi 0, sn, vi 0, sn, vi 0], z, z, ⟨[vi 5], [vu 0, vu 0, vi 0, vu 0, vi 0, sn, vi 0, sn, vi 0], z, z, ⟨[vu 0], [vu 0, vi 0, vu 0, vi 0, sn, vi 0, sn, vi 0], z, z, ⟨[vu 0], [vi 0, vu 0, vi 0, sn, vi 0, sn, vi 0], z, z, ⟨hzr, [vi 0], z, ⟨[vi 0], [vu 0, vi 0, sn, vi 0, sn], z, z, ⟨[vu 0], [vi 0, sn, vi 0, sn], z, z, ⟨[vi 0, sn], [vi 0, sn], z, ⟨[vi 0], [sn], z, z, ⟨_, z, (Or.inl ⟨z, z⟩)⟩⟩, ⟨[vi 0], [sn], z, z, ⟨_, z, (Or.inl ⟨z, z⟩)⟩⟩⟩⟩⟩, z⟩⟩⟩⟩⟩⟩⟩⟩⟩⟩⟩, z⟩⟩ z ?_)
 intro ck dc c0 m bG
 obtain ⟨ak, n, bH⟩ := OwnSl.give rfl bG
 obtain ⟨⟨cl, c, d⟩, bI, h⟩ := bnd h
 refine WL.call (vals := [ck, vi 20]) kok8 z z (c_rollup_Roll (A := imm ak) bH bI) ?_
 rintro c1 j ⟨cm, rfl, bJ, cn⟩
 obtain ⟨ad, al, am, o⟩ := adoptE ak (fun k => 1) bJ
 have c2 : Sl rep_api_Point j (imm ad) cm cl := Sl.adoptI (O := ak) cn (fun _ hk => hk) (fun _ _ => Nat.le_refl _) al am
 refine wY (ym z) z (wY (yx z z) z (wY (yx z z) z (wY (yx z z) z (wY (ya z) z (wY (ya z) z (wY (ya z) z (nl (th (sq ?_)))))))))
 refine rg (wY (ym z) z (wY (Y.eql_i z z) z (wY (ym z) z ?_)))
 refine WL.cut 4 (σ := Unit) (fun _ w' => j = w') (fun _ => [(4, p), (8, vi c), (9, vi d), (36, vB ((decide (ac = 0)) && (decide ((S.length : Int) = 2))))]) ?_ ?_
 ·refine WL.part 32 z (fun U => ?_) (fun U => ?_)
  ·refine ug z z (wY (ym z) z (ug z z ?_))
   have bM := ((q.i m z z).i n z z).i o z z
   refine wY (Y.len ty22 z bM) z (ug z z (wY (Y.eql_i z z) z (wY (Y.pick (b := true) z z) z (WL.ren (v' := vB ((decide (ac = 0)) && (decide ((S.length : Int) = 2)))) 36 z (congrArg vB (andT U)) ?_))))
   exact nl (At.join () z (.cons z (.cons z (.cons z (.cons z .nil)))))
  ·refine WL.gS z z z z (WL.gS z z z z (WL.gS z z z z (wY (Y.pick (b := false) z z) z (WL.ren (v' := vB ((decide (ac = 0)) && (decide ((S.length : Int) = 2)))) 36 z (congrArg vB (andF U)) ?_))))
   exact nl (At.join () z (.cons z (.cons z (.cons z (.cons z .nil)))))
 ·rintro _ _ rfl
  refine (show WL _ _ _ _ _ [(4, p), (8, vi c), (9, vi d), (36, vB ((decide (ac = 0)) && (decide ((S.length : Int) = 2))))] _ from ?_)
  refine wY (ym z) z ?_
  obtain ⟨co, h, bO⟩ := bnd h
  refine WL.cut 6 (σ := Bool) (fun x w' => x = co ∧ j = w') (fun x => [(4, p), (8, vi c), (9, vi d), (43, vB x)]) ?_ ?_
  ·rcases cnd h with ⟨V, h⟩ | ⟨V, h⟩
   ·refine WL.ren 37 z (congrArg vB V) (ug z z (wY (ym z) z (ug z z ?_)))
    obtain ⟨an, bP, h⟩ := bnd h
    have aF := ((q.i m z z).i n z z).i o z z
    obtain ⟨c3, cq, cr, cz, aG, aH, aI, F, ao, aJ⟩ := Sl.at2 aF bP
    obtain ⟨_, _, rfl, rfl, ⟨_, _, rfl, ⟨bQ, rfl, cA⟩, ⟨_, _, rfl, rfl, ⟨_, _, rfl, rfl, ⟨_, _, rfl, rfl, ⟨_, _, rfl, rfl, ⟨_, _, rfl, rfl, ⟨_, _, rfl, rfl, ⟨_, _, rfl, rfl, ⟨_, _, rfl, rfl, ⟨_, _, rfl, ⟨_, _, rfl, rfl, ⟨_, _, rfl, rfl, ⟨_, _, rfl, ⟨_, _, rfl, rfl, ⟨bR, rfl, cC⟩⟩, ⟨_, _, rfl, rfl, ⟨bS, rfl, cD⟩⟩⟩⟩⟩, rfl⟩⟩⟩⟩⟩⟩⟩⟩⟩⟩⟩ := ao
    replace F : CellsAt _ _ _ (cp an bQ bR bS) := F
    have ap := CAt.imm F aJ
    refine wY (Y.indexAddr ty22 ty40 z aG z aH aI) z (ug z z (wY (yf fo40_7 z) z (ug z z (wY (yl ty3 z z (ap.at_.sub 7 [vi an.Int_] z)) z (ug z z (wY (Y.eql_i z z) z (wY (Y.pick (b := true) z z) z ?_)))))))
    exact nl (At.join (σ := Bool) (decide (an.Int_ = 8)) ⟨some1 h, z⟩ (.cons z (.cons z (.cons z (.cons z .nil)))))
   ·refine WL.ren 37 z (congrArg vB V) (WL.gS z z z z (WL.gS z z z z (WL.gS z z z z (WL.gS z z z z (WL.gS z z z z (wY (Y.pick (b := false) z z) z ?_))))))
    exact nl (At.join (σ := Bool) false ⟨some1 h, z⟩ (.cons z (.cons z (.cons z (.cons z .nil)))))
  ·rintro cs _ ⟨rfl, rfl⟩
   replace h := bO
   try dsimp only at h
   refine (show WL _ _ _ _ _ [(4, p), (8, vi c), (9, vi d), (43, vB cs)] _ from ?_)
   refine wY (ym z) z ?_
   obtain ⟨bT, h, aK⟩ := bnd h
   refine WL.cut 6 (σ := Bool) (fun x w' => x = bT ∧ j = w') (fun x => [(4, p), (8, vi c), (9, vi d), (50, vB x)]) ?_ ?_
   ·rcases cnd h with ⟨G, h⟩ | ⟨G, h⟩
    ·refine WL.ren 44 z (congrArg vB G) (ug z z (wY (ym z) z (ug z z ?_)))
     obtain ⟨W, aL, h⟩ := bnd h
     have aO := ((q.i m z z).i n z z).i o z z
     obtain ⟨c4, ct, cu, cE, aP, aQ, aR, H, aq, aS⟩ := Sl.at2 aO aL
     obtain ⟨_, _, rfl, rfl, ⟨_, _, rfl, ⟨bU, rfl, cF⟩, ⟨_, _, rfl, rfl, ⟨_, _, rfl, rfl, ⟨_, _, rfl, rfl, ⟨_, _, rfl, rfl, ⟨_, _, rfl, rfl, ⟨_, _, rfl, rfl, ⟨_, _, rfl, rfl, ⟨_, _, rfl, rfl, ⟨_, _, rfl, ⟨_, _, rfl, rfl, ⟨_, _, rfl, rfl, ⟨_, _, rfl, ⟨_, _, rfl, rfl, ⟨bW, rfl, cG⟩⟩, ⟨_, _, rfl, rfl, ⟨bX, rfl, cH⟩⟩⟩⟩⟩, rfl⟩⟩⟩⟩⟩⟩⟩⟩⟩⟩⟩ := aq
     replace H : CellsAt _ _ _ (cp W bU bW bX) := H
     have ar := CAt.imm H aS
     refine wY (Y.indexAddr ty22 ty40 z aP z aQ aR) z (ug z z (wY (yf fo40_5 z) z (ug z z (wY (yl ty3 z z (ar.at_.sub 5 [vi W.Start] z)) z (ug z z (wY (Y.eql_i z z) z (wY (Y.pick (b := true) z z) z ?_)))))))
     exact nl (At.join (σ := Bool) (decide (W.Start = 5)) ⟨some1 h, z⟩ (.cons z (.cons z (.cons z (.cons z .nil)))))
    ·refine WL.ren 44 z (congrArg vB G) (WL.gS z z z z (WL.gS z z z z (WL.gS z z z z (WL.gS z z z z (WL.gS z z z z (wY (Y.pick (b := false) z z) z ?_))))))
     exact nl (At.join (σ := Bool) false ⟨some1 h, z⟩ (.cons z (.cons z (.cons z (.cons z .nil)))))
   ·rintro bY _ ⟨rfl, rfl⟩
    replace h := aK
    try dsimp only at h
    refine (show WL _ _ _ _ _ [(4, p), (8, vi c), (9, vi d), (50, vB bY)] _ from ?_)
    refine wY (ym z) z ?_
    obtain ⟨bZ, h, aT⟩ := bnd h
    refine WL.cut 6 (σ := Bool) (fun x w' => x = bZ ∧ j = w') (fun x => [(4, p), (8, vi c), (9, vi d), (57, vB x)]) ?_ ?_
    ·rcases cnd h with ⟨I, h⟩ | ⟨I, h⟩
     ·refine WL.ren 51 z (congrArg vB I) (ug z z (wY (ym z) z (ug z z ?_)))
      obtain ⟨X, aU, h⟩ := bnd h
      have aY := ((q.i m z z).i n z z).i o z z
      obtain ⟨c5, cv, cw, cI, aZ, a0, a1, J, au, a2⟩ := Sl.at2 aY aU
      obtain ⟨_, _, rfl, rfl, ⟨_, _, rfl, ⟨b0, rfl, cJ⟩, ⟨_, _, rfl, rfl, ⟨_, _, rfl, rfl, ⟨_, _, rfl, rfl, ⟨_, _, rfl, rfl, ⟨_, _, rfl, rfl, ⟨_, _, rfl, rfl, ⟨_, _, rfl, rfl, ⟨_, _, rfl, rfl, ⟨_, _, rfl, ⟨_, _, rfl, rfl, ⟨_, _, rfl, rfl, ⟨_, _, rfl, ⟨_, _, rfl, rfl, ⟨b1, rfl, cK⟩⟩, ⟨_, _, rfl, rfl, ⟨b2, rfl, cL⟩⟩⟩⟩⟩, rfl⟩⟩⟩⟩⟩⟩⟩⟩⟩⟩⟩ := au
      replace J : CellsAt _ _ _ (cp X b0 b1 b2) := J
      have av := CAt.imm J a2
      refine wY (Y.indexAddr ty22 ty40 z aZ z a0 a1) z (ug z z (wY (yf fo40_6 z) z (ug z z (wY (yl ty3 z z (av.at_.sub 6 [vi X.Time] z)) z (ug z z (wY (Y.eql_i z z) z (wY (Y.pick (b := true) z z) z ?_)))))))
      exact nl (At.join (σ := Bool) (decide (X.Time = 12)) ⟨some1 h, z⟩ (.cons z (.cons z (.cons z (.cons z .nil)))))
     ·refine WL.ren 51 z (congrArg vB I) (WL.gS z z z z (WL.gS z z z z (WL.gS z z z z (WL.gS z z z z (WL.gS z z z z (wY (Y.pick (b := false) z z) z ?_))))))
      exact nl (At.join (σ := Bool) false ⟨some1 h, z⟩ (.cons z (.cons z (.cons z (.cons z .nil)))))
    ·rintro b3 _ ⟨rfl, rfl⟩
     replace h := aT
     try dsimp only at h
     refine (show WL _ _ _ _ _ [(4, p), (8, vi c), (9, vi d), (57, vB b3)] _ from ?_)
     refine wY (ym z) z ?_
     obtain ⟨b4, h, a3⟩ := bnd h
     refine WL.cut 6 (σ := Bool) (fun x w' => x = b4 ∧ j = w') (fun x => [(8, vi c), (9, vi d), (64, vB x)]) ?_ ?_
     ·rcases cnd h with ⟨K, h⟩ | ⟨K, h⟩
      ·refine WL.ren 58 z (congrArg vB K) (ug z z (wY (ym z) z (ug z z ?_)))
       obtain ⟨Z, a4, h⟩ := bnd h
       have a7 := ((q.i m z z).i n z z).i o z z
       obtain ⟨c6, cx, cy, cM, a8, a9, ba, L, ax, bb⟩ := Sl.at2 a7 a4
       obtain ⟨_, _, rfl, rfl, ⟨_, _, rfl, ⟨b5, rfl, cN⟩, ⟨_, _, rfl, rfl, ⟨_, _, rfl, rfl, ⟨_, _, rfl, rfl, ⟨_, _, rfl, rfl, ⟨_, _, rfl, rfl, ⟨_, _, rfl, rfl, ⟨_, _, rfl, rfl, ⟨_, _, rfl, rfl, ⟨_, _, rfl, ⟨_, _, rfl, rfl, ⟨_, _, rfl, rfl, ⟨_, _, rfl, ⟨_, _, rfl, rfl, ⟨b6, rfl, cO⟩⟩, ⟨_, _, rfl, rfl, ⟨b7, rfl, cP⟩⟩⟩⟩⟩, rfl⟩⟩⟩⟩⟩⟩⟩⟩⟩⟩⟩ := ax
       replace L : CellsAt _ _ _ (cp Z b5 b6 b7) := L
       have ay := CAt.imm L bb
       refine wY (Y.indexAddr ty22 ty40 z a8 z a9 ba) z (ug z z (wY (yf fo40_7 z) z (ug z z (wY (yl ty3 z z (ay.at_.sub 7 [vi Z.Int_] z)) z (ug z z (wY (Y.eql_i z z) z (wY (Y.pick (b := true) z z) z ?_)))))))
       exact nl (At.join (σ := Bool) (decide (Z.Int_ = 2)) ⟨some1 h, z⟩ (.cons z (.cons z (.cons z .nil))))
      ·refine WL.ren 58 z (congrArg vB K) (WL.gS z z z z (WL.gS z z z z (WL.gS z z z z (WL.gS z z z z (WL.gS z z z z (wY (Y.pick (b := false) z z) z ?_))))))
       exact nl (At.join (σ := Bool) false ⟨some1 h, z⟩ (.cons z (.cons z (.cons z .nil))))
     ·rintro l _ ⟨rfl, rfl⟩
      replace h := a3
      try dsimp only at h
      refine (show WL _ _ _ _ _ [(8, vi c), (9, vi d), (64, vB l)] _ from ?_)
      refine wY (ym z) z ?_
      refine WL.cut 3 (σ := Unit) (fun _ w' => j = w') (fun _ => [(9, vi d), (68, vB (l && (decide (c = 1))))]) ?_ ?_
      ·refine WL.part 65 z (fun M => ?_) (fun M => ?_)
       ·refine ug z z (wY (ym z) z (ug z z (wY (Y.eql_i z z) z (wY (Y.pick (b := true) z z) z (WL.ren (v' := vB (l && (decide (c = 1)))) 68 z (congrArg vB (andT M)) ?_)))))
        exact nl (At.join () z (.cons z (.cons z .nil)))
       ·refine WL.gS z z z z (WL.gS z z z z (wY (Y.pick (b := false) z z) z (WL.ren (v' := vB (l && (decide (c = 1)))) 68 z (congrArg vB (andF M)) ?_)))
        exact nl (At.join () z (.cons z (.cons z .nil)))
      ·rintro _ _ rfl
       refine (show WL _ _ _ _ _ [(9, vi d), (68, vB (l && (decide (c = 1))))] _ from ?_)
       refine wY (ym z) z ?_
       refine WL.cut 3 (σ := Unit) (fun _ w' => j = w') (fun _ => [(72, vB ((l && (decide (c = 1))) && (decide (d = 9))))]) ?_ ?_
       ·refine WL.part 69 z (fun P => ?_) (fun P => ?_)
        ·refine ug z z (wY (ym z) z (ug z z (wY (Y.eql_i z z) z (wY (Y.pick (b := true) z z) z (WL.ren (v' := vB ((l && (decide (c = 1))) && (decide (d = 9)))) 72 z (congrArg vB (andT P)) ?_)))))
         exact nl (At.join () z (.cons z .nil))
        ·refine WL.gS z z z z (WL.gS z z z z (wY (Y.pick (b := false) z z) z (WL.ren (v' := vB ((l && (decide (c = 1))) && (decide (d = 9)))) 72 z (congrArg vB (andF P)) ?_)))
         exact nl (At.join () z (.cons z .nil))
       ·rintro _ _ rfl
        refine (show WL _ _ _ _ _ [(72, vB ((l && (decide (c = 1))) && (decide (d = 9))))] _ from ?_)
        refine wY (ym z) z ?_
        obtain ⟨b8, h, bc⟩ := bnd h
        refine WL.cut 3 (σ := (Bool × Own)) (fun x w' => x.1 = b8 ∧ Stp [] ad j x.2 w') (fun x => [(76, vB x.1)]) ?_ ?_
        ·rcases cnd h with ⟨Q, h⟩ | ⟨Q, h⟩
         ·refine WL.ren 73 z (congrArg vB Q) (ug z z ?_)
          obtain ⟨b9, bd, h⟩ := bnd h
          refine WL.call (vals := [vi 12, vi 5]) kok15 z z (c_rollup_Window bd) ?_
          rintro cQ cR ⟨rfl, bf⟩
          obtain ⟨ca, cd, ce, az⟩ := adoptE ad (fun k => 1) bf
          refine ug z z (wY (Y.eql_i z z) z (wY (Y.pick (b := true) z z) z ?_))
          exact nl (At.join (σ := (Bool × Own)) (decide (b9 = 2), ca) ⟨some1 h, (su_ az z)⟩ (.cons z .nil))
         ·refine WL.ren 73 z (congrArg vB Q) (WL.gS z z z z (WL.gS z z z z (wY (Y.pick (b := false) z z) z ?_)))
          exact nl (At.join (σ := (Bool × Own)) (false, ad) ⟨some1 h, (sr_ _ _ _)⟩ (.cons z .nil))
        ·rintro ⟨cb, cc⟩ bg ⟨rfl, T⟩
         replace h := bc
         try dsimp only at h T
         refine (show WL _ _ _ _ _ [(76, vB cb)] _ from ?_)
         refine wY (ya z) z (nl (th (rt ?_)))
         obtain rfl := some1 h
         have bh : Stp [11, 12, 13, 14, 15] (Lg.O0 (fun _ => False)) w cc bg := (tr_ (su_ aA z) (tr_ (su_ aC z) (tr_ (su_ aa z) (tr_ (su_ ab z) (tr_ (su_ r z) (tr_ (su_ t z) (tr_ (su_ C z) (tr_ (su_ D z) (tr_ (su_ E z) (tr_ (su_ m z) (tr_ (su_ n z) (tr_ (su_ o z) (su_ T z)))))))))))))
         exact At.res (.inl z) z (.tmp z .nil) ⟨z, (se_ bh z z)⟩
theorem c_ref11_Light {A : Nat → Prop} {a0 : List api_Pair} {v0 : Value} {w : World} (hs0 : Sl rep_api_Pair w A v0 a0) {r0 : Bool} (h : ref11_Light a0 = some r0) : Rets Tryz.prog 27 [v0] w (fun v w' => v = vB r0 ∧ Ext w w') := by
 unfold ref11_Light at h
 refine Rets.enter Tryz.func27 z z ?_
 have c : Sl rep_api_Pair w (imm (Lg.O0 A)) v0 a0 := (Sl.start hs0)
 refine (show WC _ _ _ _ [(0, v0)] _ from ?_)
 refine sq (rg (wY (ya z) z (nl (th (sq (sq (rg (wY (ym z) z (wY (Y.len ty32 z c) z ?_)))))))))
 refine wY (Y.gtr_i z z) z (nl (th ?_))
 rcases cnd h with ⟨d, h⟩ | ⟨d, h⟩
 ·refine WC.condT' z d (sq (rg (wY (ya z) z (nl (th (rt (At.thenR ?_)))))))
  obtain rfl := some1 h
  have J : Stp [] (Lg.O0 A) w (Lg.O0 A) w := (sr_ _ _ _)
  exact At.res (.inl z) z (.tmp z .nil) ⟨z, (se_ J z z)⟩
 ·refine WC.condF' z d (sk (th (sq (sq (rg (wY (ya z) z (nl (th (WC.block ?_)))))))))
  obtain ⟨H, h, r⟩ := flow1 h
  obtain ⟨I, h⟩ := loop_some h
  refine WC.joinB 0 (σ := Unit) (fun x w' => H = .go () ∧ w = w') (fun x => []) ?_ ?_
  ·refine WC.loop (σ := Int) (fun x k w' => loopN k (ref11_Light_lp1 a0) x = some H ∧ w = w') (fun x => [(0, v0), (3, vi x)]) 0 I (.cons z (.cons z .nil)) ⟨h, z⟩ ?_
   rintro t I _ ⟨h, rfl⟩
   obtain ⟨ac, an, rfl, h, j⟩ := rnd1 h
   unfold ref11_Light_lp1 at h
   try dsimp only at h
   refine (show WC _ _ _ _ [(0, v0), (3, vi t)] _ from ?_)
   refine sq (sq (rg (wY (ym z) z (wY (ym z) z (wY (Y.len ty32 z c) z (wY (Y.lss_i z z) z (nl (th ?_))))))))
   rcases cnd h with ⟨l, h⟩ | ⟨l, h⟩
   ·refine WC.condT' z l (sk (th (sq (WC.block (sq (rg (wY (ym z) z (wY (ym z) z ?_))))))))
    obtain ⟨C, K, h⟩ := bnd h
    obtain ⟨ao, ah, ai, al, L, M, P, m, D, Q⟩ := Sl.at2 c K
    obtain ⟨_, _, rfl, rfl, rfl⟩ := D
    replace m : CellsAt _ _ _ [vs C.Key, vs C.Val] := m
    have E := CAt.imm m Q
    refine wY (Y.indexAddr ty32 ty67 z L z M P) z (wY (yf fo67_0 z) z (wY (yl ty9 z z (E.at_.sub 0 [vs C.Key] z)) z (wY (Y.len_s ty9 z) z (wY (Y.gtr_i z z) z (wY (ym z) z ?_)))))
    obtain ⟨ad, h, S⟩ := bnd h
    refine WL.cut 8 (σ := Bool) (fun x w' => x = ad ∧ w = w') (fun x => [(0, v0), (3, vi t), (28, vB x)]) ?_ ?_
    ·rcases cnd h with ⟨n, h⟩ | ⟨n, h⟩
     ·refine WL.ren 20 z (congrArg vB n) (WL.gS z z z z (WL.gS z z z z (WL.gS z z z z (WL.gS z z z z (WL.gS z z z z (WL.gS z z z z (WL.gS z z z z (wY (Y.pick (b := true) z z) z ?_))))))))
      exact nl (At.join (σ := Bool) true ⟨some1 h, z⟩ (.cons z (.cons z (.cons z .nil))))
     ·refine WL.ren 20 z (congrArg vB n) (ug z z (wY (ym z) z (ug z z (wY (ym z) z (ug z z ?_)))))
      obtain ⟨q, T, h⟩ := bnd h
      obtain ⟨ap, aj, ak, am, U, V, W, o, F, X⟩ := Sl.at2 c T
      obtain ⟨_, _, rfl, rfl, rfl⟩ := F
      replace o : CellsAt _ _ _ [vs q.Key, vs q.Val] := o
      have G := CAt.imm o X
      refine wY (Y.indexAddr ty32 ty67 z U z V W) z (ug z z (wY (yf fo67_1 z) z (ug z z (wY (yl ty9 z z (G.at_.sub 1 [vs q.Val] z)) z (ug z z (wY (Y.len_s ty9 z) z (ug z z (wY (Y.gtr_i z z) z (wY (Y.pick (b := false) z z) z ?_)))))))))
      exact nl (At.join (σ := Bool) (decide (100 < (q.Val.length : Int))) ⟨some1 h, z⟩ (.cons z (.cons z (.cons z .nil))))
    ·rintro ae _ ⟨rfl, rfl⟩
     replace h := S
     try dsimp only at h
     refine (show WL _ _ _ _ _ [(0, v0), (3, vi t), (28, vB ae)] _ from ?_)
     refine nl (th ?_)
     rcases cnd h with ⟨p, h⟩ | ⟨p, h⟩
     ·refine WC.condT' z p (sq (rg (wY (ya z) z (nl (th (rt (At.inBlockR (At.thenR (At.loopR ?_)))))))))
      have h := outr1 h j r
      refine At.joinBR (At.inBlockR (At.thenR ?_))
      obtain rfl := some1 h
      have Z : Stp [] (Lg.O0 A) w (Lg.O0 A) w := (sr_ _ _ _)
      exact At.res (.inl z) z (.tmp z .nil) ⟨z, (se_ Z z z)⟩
     ·refine WC.condF' z p (sk (At.inBlock (th (rg (wY (ym z) z (wY (Y.add_i z z) z ?_))))))
      obtain ⟨af, aa, h⟩ := lt1 h
      refine WL.yE (ya z) (congrArg vi aa.symm) z (nl ?_)
      exact At.round af ac (Nat.lt_succ_self _) ⟨next1 h j, z⟩ (.cons z (.cons z .nil))
   ·refine WC.condF' z l (WC.exit (At.thenX (At.loopX ?_)))
    exact At.hitB (σ := Unit) () ⟨brk1 h j, z⟩ .nil
  ·rintro _ _ ⟨rfl, rfl⟩
   replace h := flowK_go r
   refine (show At _ _ _ [] _ from ?_)
   refine At.inBlockHit (th (sq (rg (wY (ya z) z (nl (th (rt ?_)))))))
   obtain rfl := some1 h
   have ab : Stp [] (Lg.O0 A) w (Lg.O0 A) w := (sr_ _ _ _)
   exact At.res (.inl z) z (.tmp z .nil) ⟨z, (se_ ab z z)⟩
theorem c_ref08_Light {A : Nat → Prop} {v0_3 : Value} {v0_5 : Value} {a0 : api_Hist} {w : World} (hs0_3 : Sl Rep.u w A v0_3 a0.Pos.Counts) (hs0_5 : Sl Rep.u w A v0_5 a0.Neg.Counts) {r0 : Bool} (h : ref08_Light a0 = some r0) : Rets Tryz.prog 28 [ag (hl a0 v0_3 v0_5)] w (fun v w' => v = vB r0 ∧ Ext w w') := by
 unfold ref08_Light at h
 refine Rets.enter Tryz.func28 z z ?_
 have j : Sl Rep.u w (imm (Lg.O0 A)) v0_3 a0.Pos.Counts := (Sl.start hs0_3)
 have l : Sl Rep.u w (imm (Lg.O0 A)) v0_5 a0.Neg.Counts := (Sl.start hs0_5)
 refine (show WC _ _ _ _ [(0, ag (hl a0 v0_3 v0_5))] _ from ?_)
 refine sq (rg ?_)
 have o := h
 obtain ⟨D, E, F, rfl⟩ := j.shape
 have h := o
 have p := h
 obtain ⟨G, H, I, rfl⟩ := l.shape
 have h := p
 refine WL.box (O := (Lg.O0 A)) 11 (hl a0 (vl D E F) (vl G H I)) z z z ?_
 intro K J m c n
 refine wY (ya z) z (nl (th (sq (rg (wY (yf fo38_2 z) z (wY (yf fo36_1 z) z (wY (yl ty34 z z (n.cell 3 _ z)) z ?_)))))))
 have q := j.i c z z
 refine wY (Y.len ty34 z q) z (wY (Y.leq_i z z) z (wY (ym z) z ?_))
 refine WL.cut 6 (σ := Unit) (fun _ w' => m = w') (fun _ => [(14, vB ((decide ((a0.Pos.Counts.length : Int) ≤ 300)) && (decide ((a0.Neg.Counts.length : Int) ≤ 300))))]) ?_ ?_
 ·refine WL.part 8 z (fun d => ?_) (fun d => ?_)
  ·refine ug z z (wY (yf fo38_3 z) z (ug z z (wY (yf fo36_1 z) z (ug z z (wY (yl ty34 z z (n.cell 5 _ z)) z (ug z z ?_))))))
   have r := l.i c z z
   refine wY (Y.len ty34 z r) z (ug z z (wY (Y.leq_i z z) z (wY (Y.pick (b := true) z z) z (WL.ren (v' := vB ((decide ((a0.Pos.Counts.length : Int) ≤ 300)) && (decide ((a0.Neg.Counts.length : Int) ≤ 300)))) 14 z (congrArg vB (andT d)) ?_))))
   exact nl (At.join () z (.cons z .nil))
  ·refine WL.gS z z z z (WL.gS z z z z (WL.gS z z z z (WL.gS z z z z (WL.gS z z z z (wY (Y.pick (b := false) z z) z (WL.ren (v' := vB ((decide ((a0.Pos.Counts.length : Int) ≤ 300)) && (decide ((a0.Neg.Counts.length : Int) ≤ 300)))) 14 z (congrArg vB (andF d)) ?_))))))
   exact nl (At.join () z (.cons z .nil))
 ·rintro _ _ rfl
  refine (show WL _ _ _ _ _ [(14, vB ((decide ((a0.Pos.Counts.length : Int) ≤ 300)) && (decide ((a0.Neg.Counts.length : Int) ≤ 300))))] _ from ?_)
  obtain ⟨L, t, h⟩ := lt1 h
  refine WL.yE (ya z) (congrArg vB t.symm) z (nl (th (rt ?_)))
  obtain rfl := some1 h
  have C : Stp [] (Lg.O0 A) w J m := (su_ c z)
  exact At.res (.inl z) z (.tmp z .nil) ⟨z, (se_ C z z)⟩
theorem c_ref12_Light {A : Nat → Prop} {v0_1 : Value} {v0_13 : Value} {v0_15 : Value} {a0 : api_Point} {w : World} (hs0_1 : Sl rep_api_Pair w A v0_1 a0.Attrs) (hs0_13 : Sl Rep.u w A v0_13 a0.Hist.Pos.Counts) (hs0_15 : Sl Rep.u w A v0_15 a0.Hist.Neg.Counts) {r0 : Bool} (h : ref12_Light a0 = some r0) : Rets Tryz.prog 11 [ag (cp a0 v0_1 v0_13 v0_15)] w (fun v w' => v = vB r0 ∧ Ext w w') := by
 unfold ref12_Light at h
 refine Rets.enter Tryz.func11 z z ?_
 have o : Sl rep_api_Pair w (imm (Lg.O0 A)) v0_1 a0.Attrs := (Sl.start hs0_1)
 have p : Sl Rep.u w (imm (Lg.O0 A)) v0_13 a0.Hist.Pos.Counts := (Sl.start hs0_13)
 have q : Sl Rep.u w (imm (Lg.O0 A)) v0_15 a0.Hist.Neg.Counts := (Sl.start hs0_15)
 refine (show WC _ _ _ _ [(0, ag (cp a0 v0_1 v0_13 v0_15))] _ from ?_)
 refine sq (rg ?_)
 have Q := h
 obtain ⟨K, L, M, rfl⟩ := o.shape
 have h := Q
 have S := h
 obtain ⟨r, t, C, rfl⟩ := p.shape
 have h := S
 have T := h
 obtain ⟨D, E, F, rfl⟩ := q.shape
 have h := T
 refine WL.box (O := (Lg.O0 A)) 11 (cp a0 (vl K L M) (vl r t C) (vl D E F)) z z z ?_
 intro P G U d j
 refine wY (ya z) z (nl (th (sq (rg (wY (yf fo40_0 z) z (wY (yl ty9 z z (j.cell 0 _ z)) z (wY (Y.len_s ty9 z) z (wY (Y.leq_i z z) z (wY (ym z) z ?_)))))))))
 obtain ⟨am, h, V⟩ := bnd h
 refine WL.cut 4 (σ := (Bool × Own)) (fun x w' => x.1 = am ∧ Stp [] G U x.2 w') (fun x => [(1, pt P 0), (11, vB x.1)]) ?_ ?_
 ·rcases cnd h with ⟨l, h⟩ | ⟨l, h⟩
  ·refine WL.ren 7 z (congrArg vB l) (ug z z (wY (yf fo40_1 z) z (ug z z (wY (yl ty32 z z (j.cell 1 _ z)) z (ug z z ?_)))))
   have W := o.i d z z
   obtain ⟨an, X, h⟩ := bnd h
   refine WL.call (vals := [(vl K L M)]) kok27 z z (c_ref11_Light (A := fun _ => True) (Sl.all W) X) ?_
   rintro aD aE ⟨rfl, Z⟩
   obtain ⟨ao, ap, aq, I⟩ := adoptE G (fun k => 1) Z
   refine wY (Y.pick (b := true) z z) z ?_
   exact nl (At.join (σ := (Bool × Own)) (an, ao) ⟨some1 h, (su_ I z)⟩ (.cons z (.cons z .nil)))
  ·refine WL.ren 7 z (congrArg vB l) (WL.gS z z z z (WL.gS z z z z (WL.gS z z z z (wY (Y.pick (b := false) z z) z ?_))))
   exact nl (At.join (σ := (Bool × Own)) (false, G) ⟨some1 h, (sr_ _ _ _)⟩ (.cons z (.cons z .nil)))
 ·rintro ⟨ar, H⟩ aa ⟨rfl, c⟩
  replace h := V
  try dsimp only at h c
  refine (show WL _ _ _ _ _ [(1, pt P 0), (11, vB ar)] _ from ?_)
  refine wY (ym z) z ?_
  obtain ⟨au, h, ab⟩ := bnd h
  refine WL.cut 4 (σ := (Bool × Own)) (fun x w' => x.1 = au ∧ Stp [] H aa x.2 w') (fun x => [(16, vB x.1)]) ?_ ?_
  ·rcases cnd h with ⟨m, h⟩ | ⟨m, h⟩
   ·refine WL.ren 12 z (congrArg vB m) (ug z z (wY (yf fo40_10 z) z (ug z z ?_)))
    have ac := j.st c z
    refine wY (yL ty38 z z (ac.cells 10 (hl a0.Hist (vl r t C) (vl D E F)) z) z) z (ug z z ?_)
    have ae := (p.i d z z).i c z z
    have ah := (q.i d z z).i c z z
    obtain ⟨av, ai, h⟩ := bnd h
    refine WL.call (vals := [ag (hl a0.Hist (vl r t C) (vl D E F))]) kok28 z z (c_ref08_Light (A := fun _ => True) (a0 := a0.Hist) (Sl.all ae) (Sl.all ah) ai) ?_
    rintro aF aG ⟨rfl, aj⟩
    obtain ⟨ax, ay, az, J⟩ := adoptE H (fun k => 1) aj
    refine wY (Y.pick (b := true) z z) z ?_
    exact nl (At.join (σ := (Bool × Own)) (av, ax) ⟨some1 h, (su_ J z)⟩ (.cons z .nil))
   ·refine WL.ren 12 z (congrArg vB m) (WL.gS z z z z (WL.gS z z z z (WL.gS z z z z (wY (Y.pick (b := false) z z) z ?_))))
    exact nl (At.join (σ := (Bool × Own)) (false, H) ⟨some1 h, (sr_ _ _ _)⟩ (.cons z .nil))
  ·rintro ⟨aA, aC⟩ ak ⟨rfl, n⟩
   replace h := ab
   try dsimp only at h n
   refine (show WL _ _ _ _ _ [(16, vB aA)] _ from ?_)
   refine wY (ya z) z (nl (th (rt ?_)))
   obtain rfl := some1 h
   have al : Stp [] (Lg.O0 A) w aC ak := (tr_ (su_ d z) (tr_ (su_ c z) (su_ n z)))
   exact At.res (.inl z) z (.tmp z .nil) ⟨z, (se_ al z z)⟩
theorem c_ref12_Some {A : Nat → Prop} {a0 : List api_Point} {v0 : Value} {a1 : Int} {w : World} (hs0 : Sl rep_api_Point w A v0 a0) {r0 : Bool} (h : ref12_Some a0 a1 = some r0) : Rets Tryz.prog 7 [v0, vi a1] w (fun v w' => v = vB r0 ∧ Ext w w') := by
 unfold ref12_Some at h
 refine Rets.enter Tryz.func7 z z ?_
 have p : Sl rep_api_Point w (imm (Lg.O0 A)) v0 a0 := (Sl.start hs0)
 refine (show WC _ _ _ _ [(0, v0), (1, vi a1)] _ from ?_)
 refine sq (rg (wY (ya z) z (nl (th (sq (sq (rg (wY (ym z) z (wY (Y.len ty22 z p) z ?_)))))))))
 refine wY (ym z) z (wY (Y.gtr_i z z) z (nl (th ?_)))
 rcases cnd h with ⟨d, h⟩ | ⟨d, h⟩
 ·refine WC.condT' z d (sq (rg (wY (ya z) z (nl (th (rt (At.thenR ?_)))))))
  obtain rfl := some1 h
  have M : Stp [] (Lg.O0 A) w (Lg.O0 A) w := (sr_ _ _ _)
  exact At.res (.inl z) z (.tmp z .nil) ⟨z, (se_ M z z)⟩
 ·refine WC.condF' z d (sk (th (sq (sq (rg (wY (ya z) z (nl (th (WC.block ?_)))))))))
  obtain ⟨F, h, q⟩ := flow1 h
  obtain ⟨G, h⟩ := loop_some h
  refine WC.joinB 0 (σ := Own) (fun x w' => F = .go () ∧ Stp [] (Lg.O0 A) w x w') (fun x => []) ?_ ?_
  ·refine WC.loop (σ := (Int × Own)) (fun x k w' => loopN k (ref12_Some_lp1 a0) x.1 = some F ∧ Stp [] (Lg.O0 A) w x.2 w') (fun x => [(0, v0), (5, vi x.1)]) (0, (Lg.O0 A)) G (.cons z (.cons z .nil)) ⟨h, (sr_ _ _ _)⟩ ?_
   rintro ⟨ah, H⟩ G ap ⟨h, c⟩
   obtain ⟨ai, au, rfl, h, j⟩ := rnd1 h
   unfold ref12_Some_lp1 at h
   try dsimp only at h c
   refine (show WC _ _ _ _ [(0, v0), (5, vi ah)] _ from ?_)
   refine sq (sq (rg (wY (ym z) z (wY (ym z) z ?_))))
   have r := p.i c z z
   refine wY (Y.len ty22 z r) z (wY (Y.lss_i z z) z (nl (th ?_)))
   rcases cnd h with ⟨l, h⟩ | ⟨l, h⟩
   ·refine WC.condT' z l (sk (th (sq (WC.block (sq (rg (wY (ym z) z (wY (ym z) z ?_))))))))
    obtain ⟨t, P, h⟩ := bnd h
    obtain ⟨av, an, ao, aq, Q, S, T, m, C, U⟩ := Sl.at2 r P
    obtain ⟨_, _, rfl, rfl, ⟨_, _, rfl, ⟨I, rfl, V⟩, ⟨_, _, rfl, rfl, ⟨_, _, rfl, rfl, ⟨_, _, rfl, rfl, ⟨_, _, rfl, rfl, ⟨_, _, rfl, rfl, ⟨_, _, rfl, rfl, ⟨_, _, rfl, rfl, ⟨_, _, rfl, rfl, ⟨_, _, rfl, ⟨_, _, rfl, rfl, ⟨_, _, rfl, rfl, ⟨_, _, rfl, ⟨_, _, rfl, rfl, ⟨J, rfl, W⟩⟩, ⟨_, _, rfl, rfl, ⟨K, rfl, X⟩⟩⟩⟩⟩, rfl⟩⟩⟩⟩⟩⟩⟩⟩⟩⟩⟩ := C
    replace m : CellsAt _ _ _ (cp t I J K) := m
    have D := CAt.imm m U
    refine wY (Y.indexAddr ty22 ty40 z Q z S T) z (wY (yL ty40 z z D.at_ z) z ?_)
    obtain ⟨ax, Z, h⟩ := bnd h
    refine WL.call (vals := [ag (cp t I J K)]) kok11 z z (c_ref12_Light (A := fun _ => True) (a0 := t) (Sl.all V) (Sl.all W) (Sl.all X) Z) ?_
    rintro ar aa ⟨rfl, ab⟩
    obtain ⟨L, aj, ak, o⟩ := adoptE H (fun k => 1) ab
    refine wY (Y.not z) z (nl (th ?_))
    rcases cnd h with ⟨n, h⟩ | ⟨n, h⟩
    ·refine WC.condT' z n (sq (rg (wY (ya z) z (nl (th (rt (At.inBlockR (At.thenR (At.loopR ?_)))))))))
     have h := outr1 h j q
     refine At.joinBR (At.inBlockR (At.thenR ?_))
     obtain rfl := some1 h
     have ac : Stp [] (Lg.O0 A) w L aa := (tr_ (su_ c z) (su_ o z))
     exact At.res (.inl z) z (.tmp z .nil) ⟨z, (se_ ac z z)⟩
    ·refine WC.condF' z n (sk (At.inBlock (th (rg (wY (ym z) z (wY (Y.add_i z z) z ?_))))))
     obtain ⟨al, ad, h⟩ := lt1 h
     refine WL.yE (ya z) (congrArg vi ad.symm) z (nl ?_)
     exact At.round (al, L) ai (Nat.lt_succ_self _) ⟨next1 h j, (tr_ (su_ c z) (su_ o z))⟩ (.cons z (.cons z .nil))
   ·refine WC.condF' z l (WC.exit (At.thenX (At.loopX ?_)))
    exact At.hitB (σ := Own) H ⟨brk1 h j, (su_ c z)⟩ .nil
  ·rintro am ae ⟨rfl, E⟩
   replace h := flowK_go q
   refine (show At _ _ _ [] _ from ?_)
   refine At.inBlockHit (th (sq (rg (wY (ya z) z (nl (th (rt ?_)))))))
   obtain rfl := some1 h
   have af : Stp [] (Lg.O0 A) w am ae := (su_ E z)
   exact At.res (.inl z) z (.tmp z .nil) ⟨z, (se_ af z z)⟩
theorem c_ref11_Name {a0 : List UInt8} {w : World} {r0 : Bool} (h : ref11_Name a0 = some r0) : Rets Tryz.prog 93 [vs a0] w (fun v w' => v = vB r0 ∧ Ext w w') := by
 unfold ref11_Name at h
 refine Rets.enter Tryz.func93 z z ?_
 refine (show WC _ _ _ _ [(0, vs a0)] _ from ?_)
 refine sq (rg (wY (ya z) z (nl (th (sq (sq (rg (wY (ym z) z (wY (Y.len_s ty9 z) z ?_)))))))))
 refine wY (Y.lss_i z z) z (wY (ym z) z ?_)
 refine WL.cut 4 (σ := Unit) (fun _ w' => w = w') (fun _ => [(0, vs a0), (14, vB ((decide ((a0.length : Int) < 1)) || (decide (32 < (a0.length : Int)))))]) ?_ ?_
 ·refine WL.part 10 z (fun o => ?_) (fun o => ?_)
  ·refine WL.gS z z z z (WL.gS z z z z (WL.gS z z z z (wY (Y.pick (b := true) z z) z (WL.ren (v' := vB ((decide ((a0.length : Int) < 1)) || (decide (32 < (a0.length : Int))))) 14 z (congrArg vB (orT o)) ?_))))
   exact nl (At.join () z (.cons z (.cons z .nil)))
  ·refine ug z z (wY (ym z) z (ug z z (wY (Y.len_s ty9 z) z (ug z z (wY (Y.gtr_i z z) z (wY (Y.pick (b := false) z z) z (WL.ren (v' := vB ((decide ((a0.length : Int) < 1)) || (decide (32 < (a0.length : Int))))) 14 z (congrArg vB (orF o)) ?_)))))))
   exact nl (At.join () z (.cons z (.cons z .nil)))
 ·rintro _ _ rfl
  refine (show WL _ _ _ _ _ [(0, vs a0), (14, vB ((decide ((a0.length : Int) < 1)) || (decide (32 < (a0.length : Int)))))] _ from ?_)
  refine nl (th ?_)
  rcases cnd h with ⟨p, h⟩ | ⟨p, h⟩
  ·refine WC.condT' z p (sq (rg (wY (ya z) z (nl (th (rt (At.thenR ?_)))))))
   obtain rfl := some1 h
   have L : Stp [] (Lg.O0 (fun _ => False)) w (Lg.O0 (fun _ => False)) w := (sr_ _ _ _)
   exact At.res (.inl z) z (.tmp z .nil) ⟨z, (se_ L z z)⟩
  ·refine WC.condF' z p (sk (th (sq (sq (rg (wY (ya z) z (nl (th (WC.block ?_)))))))))
   obtain ⟨J, h, I⟩ := flow1 h
   obtain ⟨K, h⟩ := loop_some h
   refine WC.joinB 0 (σ := Unit) (fun x w' => J = .go () ∧ w = w') (fun x => []) ?_ ?_
   ·refine WC.loop (σ := Int) (fun x k w' => loopN k (ref11_Name_lp1 a0) x = some J ∧ w = w') (fun x => [(0, vs a0), (3, vi x)]) 0 K (.cons z (.cons z .nil)) ⟨h, z⟩ ?_
    rintro j K _ ⟨h, rfl⟩
    obtain ⟨T, V, rfl, h, q⟩ := rnd1 h
    unfold ref11_Name_lp1 at h
    try dsimp only at h
    refine (show WC _ _ _ _ [(0, vs a0), (3, vi j)] _ from ?_)
    refine sq (sq (rg (wY (ym z) z (wY (ym z) z (wY (Y.len_s ty9 z) z (wY (Y.lss_i z z) z (nl (th ?_))))))))
    rcases cnd h with ⟨r, h⟩ | ⟨r, h⟩
    ·refine WC.condT' z r (sk (th (sq (WC.block (sq (rg (wY (ym z) z (wY (ym z) z ?_))))))))
     obtain ⟨c, M, h⟩ := bnd h
     refine wY (Y.index_s ty9 z z M) z (wY (ya z) z (nl (th (sq (rg (wY (ym z) z (wY (Y.geq_b (b := 97) z z) z (wY (ym z) z ?_))))))))
     refine WL.cut 3 (σ := Unit) (fun _ w' => w = w') (fun _ => [(0, vs a0), (3, vi j), (4, vb c), (29, vB ((decide (97 ≤ c)) && (decide (c ≤ 122))))]) ?_ ?_
     ·refine WL.part 26 z (fun t => ?_) (fun t => ?_)
      ·refine ug z z (wY (ym z) z (ug z z (wY (Y.leq_b (b := 122) z z) z (wY (Y.pick (b := true) z z) z (WL.ren (v' := vB ((decide (97 ≤ c)) && (decide (c ≤ 122)))) 29 z (congrArg vB (andT t)) ?_)))))
       exact nl (At.join () z (.cons z (.cons z (.cons z (.cons z .nil)))))
      ·refine WL.gS z z z z (WL.gS z z z z (wY (Y.pick (b := false) z z) z (WL.ren (v' := vB ((decide (97 ≤ c)) && (decide (c ≤ 122)))) 29 z (congrArg vB (andF t)) ?_)))
       exact nl (At.join () z (.cons z (.cons z (.cons z (.cons z .nil)))))
     ·rintro _ _ rfl
      refine (show WL _ _ _ _ _ [(0, vs a0), (3, vi j), (4, vb c), (29, vB ((decide (97 ≤ c)) && (decide (c ≤ 122))))] _ from ?_)
      obtain ⟨d, n, h⟩ := lt1 h
      refine WL.yE (ya z) (congrArg vB n.symm) z (nl (th (sq (rg (wY (ym z) z (wY (Y.geq_b (b := 48) z z) z (wY (ym z) z ?_)))))))
      refine WL.cut 3 (σ := Unit) (fun _ w' => w = w') (fun _ => [(0, vs a0), (3, vi j), (4, vb c), (5, vB d), (35, vB ((decide (48 ≤ c)) && (decide (c ≤ 57))))]) ?_ ?_
      ·refine WL.part 32 z (fun C => ?_) (fun C => ?_)
       ·refine ug z z (wY (ym z) z (ug z z (wY (Y.leq_b (b := 57) z z) z (wY (Y.pick (b := true) z z) z (WL.ren (v' := vB ((decide (48 ≤ c)) && (decide (c ≤ 57)))) 35 z (congrArg vB (andT C)) ?_)))))
        exact nl (At.join () z (.cons z (.cons z (.cons z (.cons z (.cons z .nil))))))
       ·refine WL.gS z z z z (WL.gS z z z z (wY (Y.pick (b := false) z z) z (WL.ren (v' := vB ((decide (48 ≤ c)) && (decide (c ≤ 57)))) 35 z (congrArg vB (andF C)) ?_)))
        exact nl (At.join () z (.cons z (.cons z (.cons z (.cons z (.cons z .nil))))))
      ·rintro _ _ rfl
       refine (show WL _ _ _ _ _ [(0, vs a0), (3, vi j), (4, vb c), (5, vB d), (35, vB ((decide (48 ≤ c)) && (decide (c ≤ 57))))] _ from ?_)
       refine wY (ym z) z ?_
       refine WL.cut 3 (σ := Unit) (fun _ w' => w = w') (fun _ => [(0, vs a0), (3, vi j), (4, vb c), (5, vB d), (39, vB (((decide (48 ≤ c)) && (decide (c ≤ 57))) || (decide (c = 95))))]) ?_ ?_
       ·refine WL.part 36 z (fun D => ?_) (fun D => ?_)
        ·refine WL.gS z z z z (WL.gS z z z z (wY (Y.pick (b := true) z z) z (WL.ren (v' := vB (((decide (48 ≤ c)) && (decide (c ≤ 57))) || (decide (c = 95)))) 39 z (congrArg vB (orT D)) ?_)))
         exact nl (At.join () z (.cons z (.cons z (.cons z (.cons z (.cons z .nil))))))
        ·refine ug z z (wY (ym z) z (ug z z (wY (Y.eql_b (b := 95) z z) z (wY (Y.pick (b := false) z z) z (WL.ren (v' := vB (((decide (48 ≤ c)) && (decide (c ≤ 57))) || (decide (c = 95)))) 39 z (congrArg vB (orF D)) ?_)))))
         exact nl (At.join () z (.cons z (.cons z (.cons z (.cons z (.cons z .nil))))))
       ·rintro _ _ rfl
        refine (show WL _ _ _ _ _ [(0, vs a0), (3, vi j), (4, vb c), (5, vB d), (39, vB (((decide (48 ≤ c)) && (decide (c ≤ 57))) || (decide (c = 95))))] _ from ?_)
        refine wY (ym z) z ?_
        refine WL.cut 3 (σ := Unit) (fun _ w' => w = w') (fun _ => [(0, vs a0), (3, vi j), (5, vB d), (43, vB ((((decide (48 ≤ c)) && (decide (c ≤ 57))) || (decide (c = 95))) || (decide (c = 46))))]) ?_ ?_
        ·refine WL.part 40 z (fun E => ?_) (fun E => ?_)
         ·refine WL.gS z z z z (WL.gS z z z z (wY (Y.pick (b := true) z z) z (WL.ren (v' := vB ((((decide (48 ≤ c)) && (decide (c ≤ 57))) || (decide (c = 95))) || (decide (c = 46)))) 43 z (congrArg vB (orT E)) ?_)))
          exact nl (At.join () z (.cons z (.cons z (.cons z (.cons z .nil)))))
         ·refine ug z z (wY (ym z) z (ug z z (wY (Y.eql_b (b := 46) z z) z (wY (Y.pick (b := false) z z) z (WL.ren (v' := vB ((((decide (48 ≤ c)) && (decide (c ≤ 57))) || (decide (c = 95))) || (decide (c = 46)))) 43 z (congrArg vB (orF E)) ?_)))))
          exact nl (At.join () z (.cons z (.cons z (.cons z (.cons z .nil)))))
        ·rintro _ _ rfl
         refine (show WL _ _ _ _ _ [(0, vs a0), (3, vi j), (5, vB d), (43, vB ((((decide (48 ≤ c)) && (decide (c ≤ 57))) || (decide (c = 95))) || (decide (c = 46))))] _ from ?_)
         obtain ⟨l, F, h⟩ := lt1 h
         refine WL.yE (ya z) (congrArg vB F.symm) z (nl (th (sq (rg (wY (ym z) z (wY (Y.not z) z (wY (ym z) z ?_)))))))
         refine WL.cut 7 (σ := Unit) (fun _ w' => w = w') (fun _ => [(0, vs a0), (3, vi j), (53, vB ((!d) && ((decide (j = 0)) || (!l))))]) ?_ ?_
         ·refine WL.part 46 z (fun G => ?_) (fun G => ?_)
          ·refine ug z z (wY (ym z) z (ug z z (wY (Y.eql_i z z) z (ug z z (wY (ym z) z ?_)))))
           refine WL.cut 3 (σ := Unit) (fun _ w' => w = w') (fun _ => [(0, vs a0), (3, vi j), (46, vB true), (47, vi j), (48, vB (decide (j = 0))), (49, vB (decide (j = 0))), (52, vB ((decide (j = 0)) || (!l)))]) ?_ ?_
           ·refine WL.part 49 z (fun m => ?_) (fun m => ?_)
            ·refine WL.gS z z z z (WL.gS z z z z (ug z z (wY (Y.pick (b := true) z z) z (WL.ren (v' := vB ((decide (j = 0)) || (!l))) 52 z (congrArg vB (orT m)) (WL.ren 49 z (congrArg vB m.symm) ?_)))))
             exact nl (At.join () z (.cons z (.cons z (.cons z (.cons z (.cons z (.cons z (.cons z .nil))))))))
            ·refine ug z z (wY (ym z) z (ug z z (wY (Y.not z) z (ug z z (wY (Y.pick (b := false) z z) z (WL.ren (v' := vB ((decide (j = 0)) || (!l))) 52 z (congrArg vB (orF m)) (WL.ren 49 z (congrArg vB m.symm) ?_)))))))
             exact nl (At.join () z (.cons z (.cons z (.cons z (.cons z (.cons z (.cons z (.cons z .nil))))))))
           ·rintro _ _ rfl
            refine (show WL _ _ _ _ _ [(0, vs a0), (3, vi j), (46, vB true), (47, vi j), (48, vB (decide (j = 0))), (49, vB (decide (j = 0))), (52, vB ((decide (j = 0)) || (!l)))] _ from ?_)
            refine wY (Y.pick (b := true) z z) z (WL.ren (v' := vB ((!d) && ((decide (j = 0)) || (!l)))) 53 z (congrArg vB (andT G)) ?_)
            exact nl (At.join () z (.cons z (.cons z (.cons z .nil))))
          ·refine WL.gS z z z z (WL.gS z z z z (WL.gS z z z z (WL.gS z z z z (WL.gS z z z z (WL.gS z z z z (wY (Y.pick (b := false) z z) z (WL.ren (v' := vB ((!d) && ((decide (j = 0)) || (!l)))) 53 z (congrArg vB (andF G)) ?_)))))))
           exact nl (At.join () z (.cons z (.cons z (.cons z .nil))))
         ·rintro _ _ rfl
          refine (show WL _ _ _ _ _ [(0, vs a0), (3, vi j), (53, vB ((!d) && ((decide (j = 0)) || (!l))))] _ from ?_)
          refine nl (th ?_)
          rcases cnd h with ⟨H, h⟩ | ⟨H, h⟩
          ·refine WC.condT' z H (sq (rg (wY (ya z) z (nl (th (rt (At.inBlockR (At.thenR (At.loopR ?_)))))))))
           have h := outr1 h q I
           refine At.joinBR (At.inBlockR (At.thenR ?_))
           obtain rfl := some1 h
           have P : Stp [] (Lg.O0 (fun _ => False)) w (Lg.O0 (fun _ => False)) w := (sr_ _ _ _)
           exact At.res (.inl z) z (.tmp z .nil) ⟨z, (se_ P z z)⟩
          ·refine WC.condF' z H (sk (At.inBlock (th (rg (wY (ym z) z (wY (Y.add_i z z) z ?_))))))
           obtain ⟨U, Q, h⟩ := lt1 h
           refine WL.yE (ya z) (congrArg vi Q.symm) z (nl ?_)
           exact At.round U T (Nat.lt_succ_self _) ⟨next1 h q, z⟩ (.cons z (.cons z .nil))
    ·refine WC.condF' z r (WC.exit (At.thenX (At.loopX ?_)))
     exact At.hitB (σ := Unit) () ⟨brk1 h q, z⟩ .nil
   ·rintro _ _ ⟨rfl, rfl⟩
    replace h := flowK_go I
    refine (show At _ _ _ [] _ from ?_)
    refine At.inBlockHit (th (sq (rg (wY (ya z) z (nl (th (rt ?_)))))))
    obtain rfl := some1 h
    have S : Stp [] (Lg.O0 (fun _ => False)) w (Lg.O0 (fun _ => False)) w := (sr_ _ _ _)
    exact At.res (.inl z) z (.tmp z .nil) ⟨z, (se_ S z z)⟩
theorem c_ref11_Value {a0 : List UInt8} {w : World} {r0 : Bool} (h : ref11_Value a0 = some r0) : Rets Tryz.prog 94 [vs a0] w (fun v w' => v = vB r0 ∧ Ext w w') := by
 unfold ref11_Value at h
 refine Rets.enter Tryz.func94 z z ?_
 refine (show WC _ _ _ _ [(0, vs a0)] _ from ?_)
 refine sq (rg (wY (ya z) z (nl (th (sq (sq (rg (wY (ym z) z (wY (Y.len_s ty9 z) z ?_)))))))))
 refine wY (Y.lss_i z z) z (wY (ym z) z ?_)
 refine WL.cut 4 (σ := Unit) (fun _ w' => w = w') (fun _ => [(0, vs a0), (12, vB ((decide ((a0.length : Int) < 1)) || (decide (32 < (a0.length : Int)))))]) ?_ ?_
 ·refine WL.part 8 z (fun j => ?_) (fun j => ?_)
  ·refine WL.gS z z z z (WL.gS z z z z (WL.gS z z z z (wY (Y.pick (b := true) z z) z (WL.ren (v' := vB ((decide ((a0.length : Int) < 1)) || (decide (32 < (a0.length : Int))))) 12 z (congrArg vB (orT j)) ?_))))
   exact nl (At.join () z (.cons z (.cons z .nil)))
  ·refine ug z z (wY (ym z) z (ug z z (wY (Y.len_s ty9 z) z (ug z z (wY (Y.gtr_i z z) z (wY (Y.pick (b := false) z z) z (WL.ren (v' := vB ((decide ((a0.length : Int) < 1)) || (decide (32 < (a0.length : Int))))) 12 z (congrArg vB (orF j)) ?_)))))))
   exact nl (At.join () z (.cons z (.cons z .nil)))
 ·rintro _ _ rfl
  refine (show WL _ _ _ _ _ [(0, vs a0), (12, vB ((decide ((a0.length : Int) < 1)) || (decide (32 < (a0.length : Int)))))] _ from ?_)
  refine nl (th ?_)
  rcases cnd h with ⟨l, h⟩ | ⟨l, h⟩
  ·refine WC.condT' z l (sq (rg (wY (ya z) z (nl (th (rt (At.thenR ?_)))))))
   obtain rfl := some1 h
   have F : Stp [] (Lg.O0 (fun _ => False)) w (Lg.O0 (fun _ => False)) w := (sr_ _ _ _)
   exact At.res (.inl z) z (.tmp z .nil) ⟨z, (se_ F z z)⟩
  ·refine WC.condF' z l (sk (th (sq (sq (rg (wY (ya z) z (nl (th (WC.block ?_)))))))))
   obtain ⟨D, h, C⟩ := flow1 h
   obtain ⟨E, h⟩ := loop_some h
   refine WC.joinB 0 (σ := Unit) (fun x w' => D = .go () ∧ w = w') (fun x => []) ?_ ?_
   ·refine WC.loop (σ := Int) (fun x k w' => loopN k (ref11_Value_lp1 a0) x = some D ∧ w = w') (fun x => [(0, vs a0), (3, vi x)]) 0 E (.cons z (.cons z .nil)) ⟨h, z⟩ ?_
    rintro d E _ ⟨h, rfl⟩
    obtain ⟨K, M, rfl, h, m⟩ := rnd1 h
    unfold ref11_Value_lp1 at h
    try dsimp only at h
    refine (show WC _ _ _ _ [(0, vs a0), (3, vi d)] _ from ?_)
    refine sq (sq (rg (wY (ym z) z (wY (ym z) z (wY (Y.len_s ty9 z) z (wY (Y.lss_i z z) z (nl (th ?_))))))))
    rcases cnd h with ⟨n, h⟩ | ⟨n, h⟩
    ·refine WC.condT' z n (sk (th (sq (WC.block (sq (rg (wY (ym z) z (wY (ym z) z ?_))))))))
     obtain ⟨c, G, h⟩ := bnd h
     refine wY (Y.index_s ty9 z z G) z (wY (ya z) z (nl (th (sq (rg (wY (ym z) z (wY (Y.leq_b (b := 32) z z) z (wY (ym z) z ?_))))))))
     refine WL.cut 3 (σ := Unit) (fun _ w' => w = w') (fun _ => [(0, vs a0), (3, vi d), (4, vb c), (27, vB ((decide (c ≤ 32)) || (decide (127 ≤ c))))]) ?_ ?_
     ·refine WL.part 24 z (fun o => ?_) (fun o => ?_)
      ·refine WL.gS z z z z (WL.gS z z z z (wY (Y.pick (b := true) z z) z (WL.ren (v' := vB ((decide (c ≤ 32)) || (decide (127 ≤ c)))) 27 z (congrArg vB (orT o)) ?_)))
       exact nl (At.join () z (.cons z (.cons z (.cons z (.cons z .nil)))))
      ·refine ug z z (wY (ym z) z (ug z z (wY (Y.geq_b (b := 127) z z) z (wY (Y.pick (b := false) z z) z (WL.ren (v' := vB ((decide (c ≤ 32)) || (decide (127 ≤ c)))) 27 z (congrArg vB (orF o)) ?_)))))
       exact nl (At.join () z (.cons z (.cons z (.cons z (.cons z .nil)))))
     ·rintro _ _ rfl
      refine (show WL _ _ _ _ _ [(0, vs a0), (3, vi d), (4, vb c), (27, vB ((decide (c ≤ 32)) || (decide (127 ≤ c))))] _ from ?_)
      refine wY (ym z) z ?_
      refine WL.cut 3 (σ := Unit) (fun _ w' => w = w') (fun _ => [(0, vs a0), (3, vi d), (4, vb c), (31, vB (((decide (c ≤ 32)) || (decide (127 ≤ c))) || (decide (c = 61))))]) ?_ ?_
      ·refine WL.part 28 z (fun p => ?_) (fun p => ?_)
       ·refine WL.gS z z z z (WL.gS z z z z (wY (Y.pick (b := true) z z) z (WL.ren (v' := vB (((decide (c ≤ 32)) || (decide (127 ≤ c))) || (decide (c = 61)))) 31 z (congrArg vB (orT p)) ?_)))
        exact nl (At.join () z (.cons z (.cons z (.cons z (.cons z .nil)))))
       ·refine ug z z (wY (ym z) z (ug z z (wY (Y.eql_b (b := 61) z z) z (wY (Y.pick (b := false) z z) z (WL.ren (v' := vB (((decide (c ≤ 32)) || (decide (127 ≤ c))) || (decide (c = 61)))) 31 z (congrArg vB (orF p)) ?_)))))
        exact nl (At.join () z (.cons z (.cons z (.cons z (.cons z .nil)))))
      ·rintro _ _ rfl
       refine (show WL _ _ _ _ _ [(0, vs a0), (3, vi d), (4, vb c), (31, vB (((decide (c ≤ 32)) || (decide (127 ≤ c))) || (decide (c = 61))))] _ from ?_)
       refine wY (ym z) z ?_
       refine WL.cut 3 (σ := Unit) (fun _ w' => w = w') (fun _ => [(0, vs a0), (3, vi d), (4, vb c), (35, vB ((((decide (c ≤ 32)) || (decide (127 ≤ c))) || (decide (c = 61))) || (decide (c = 59))))]) ?_ ?_
       ·refine WL.part 32 z (fun q => ?_) (fun q => ?_)
        ·refine WL.gS z z z z (WL.gS z z z z (wY (Y.pick (b := true) z z) z (WL.ren (v' := vB ((((decide (c ≤ 32)) || (decide (127 ≤ c))) || (decide (c = 61))) || (decide (c = 59)))) 35 z (congrArg vB (orT q)) ?_)))
         exact nl (At.join () z (.cons z (.cons z (.cons z (.cons z .nil)))))
        ·refine ug z z (wY (ym z) z (ug z z (wY (Y.eql_b (b := 59) z z) z (wY (Y.pick (b := false) z z) z (WL.ren (v' := vB ((((decide (c ≤ 32)) || (decide (127 ≤ c))) || (decide (c = 61))) || (decide (c = 59)))) 35 z (congrArg vB (orF q)) ?_)))))
         exact nl (At.join () z (.cons z (.cons z (.cons z (.cons z .nil)))))
       ·rintro _ _ rfl
        refine (show WL _ _ _ _ _ [(0, vs a0), (3, vi d), (4, vb c), (35, vB ((((decide (c ≤ 32)) || (decide (127 ≤ c))) || (decide (c = 61))) || (decide (c = 59))))] _ from ?_)
        refine wY (ym z) z ?_
        refine WL.cut 3 (σ := Unit) (fun _ w' => w = w') (fun _ => [(0, vs a0), (3, vi d), (39, vB (((((decide (c ≤ 32)) || (decide (127 ≤ c))) || (decide (c = 61))) || (decide (c = 59))) || (decide (c = 44))))]) ?_ ?_
        ·refine WL.part 36 z (fun r => ?_) (fun r => ?_)
         ·refine WL.gS z z z z (WL.gS z z z z (wY (Y.pick (b := true) z z) z (WL.ren (v' := vB (((((decide (c ≤ 32)) || (decide (127 ≤ c))) || (decide (c = 61))) || (decide (c = 59))) || (decide (c = 44)))) 39 z (congrArg vB (orT r)) ?_)))
          exact nl (At.join () z (.cons z (.cons z (.cons z .nil))))
         ·refine ug z z (wY (ym z) z (ug z z (wY (Y.eql_b (b := 44) z z) z (wY (Y.pick (b := false) z z) z (WL.ren (v' := vB (((((decide (c ≤ 32)) || (decide (127 ≤ c))) || (decide (c = 61))) || (decide (c = 59))) || (decide (c = 44)))) 39 z (congrArg vB (orF r)) ?_)))))
          exact nl (At.join () z (.cons z (.cons z (.cons z .nil))))
        ·rintro _ _ rfl
         refine (show WL _ _ _ _ _ [(0, vs a0), (3, vi d), (39, vB (((((decide (c ≤ 32)) || (decide (127 ≤ c))) || (decide (c = 61))) || (decide (c = 59))) || (decide (c = 44))))] _ from ?_)
         refine nl (th ?_)
         rcases cnd h with ⟨t, h⟩ | ⟨t, h⟩
         ·refine WC.condT' z t (sq (rg (wY (ya z) z (nl (th (rt (At.inBlockR (At.thenR (At.loopR ?_)))))))))
          have h := outr1 h m C
          refine At.joinBR (At.inBlockR (At.thenR ?_))
          obtain rfl := some1 h
          have H : Stp [] (Lg.O0 (fun _ => False)) w (Lg.O0 (fun _ => False)) w := (sr_ _ _ _)
          exact At.res (.inl z) z (.tmp z .nil) ⟨z, (se_ H z z)⟩
         ·refine WC.condF' z t (sk (At.inBlock (th (rg (wY (ym z) z (wY (Y.add_i z z) z ?_))))))
          obtain ⟨L, I, h⟩ := lt1 h
          refine WL.yE (ya z) (congrArg vi I.symm) z (nl ?_)
          exact At.round L K (Nat.lt_succ_self _) ⟨next1 h m, z⟩ (.cons z (.cons z .nil))
    ·refine WC.condF' z n (WC.exit (At.thenX (At.loopX ?_)))
     exact At.hitB (σ := Unit) () ⟨brk1 h m, z⟩ .nil
   ·rintro _ _ ⟨rfl, rfl⟩
    replace h := flowK_go C
    refine (show At _ _ _ [] _ from ?_)
    refine At.inBlockHit (th (sq (rg (wY (ya z) z (nl (th (rt ?_)))))))
    obtain rfl := some1 h
    have J : Stp [] (Lg.O0 (fun _ => False)) w (Lg.O0 (fun _ => False)) w := (sr_ _ _ _)
    exact At.res (.inl z) z (.tmp z .nil) ⟨z, (se_ J z z)⟩
theorem c_ref11_Check {A : Nat → Prop} {a0 : List UInt8} {a1 : List api_Pair} {v1 : Value} {w : World} (hs1 : Sl rep_api_Pair w A v1 a1) {r0 : Int} (h : ref11_Check a0 a1 = some r0) : Rets Tryz.prog 52 [vs a0, v1] w (fun v w' => v = vi r0 ∧ Ext w w') := by
 unfold ref11_Check at h
 refine Rets.enter Tryz.func52 z z ?_
 have aT : Sl rep_api_Pair w (imm (Lg.O0 A)) v1 a1 := (Sl.start hs1)
 refine (show WC _ _ _ _ [(0, vs a0), (1, v1)] _ from ?_)
 refine sq (rg (wY (ya z) z (nl (th (sq (sq (rg (wY (ym z) z ?_))))))))
 obtain ⟨b5, aU, h⟩ := bnd h
 refine WL.call (vals := [vs a0]) kok93 z z (c_ref11_Name aU) ?_
 rintro bT p ⟨rfl, aW⟩
 obtain ⟨H, bp, bq, d⟩ := adoptE (Lg.O0 A) (fun k => 1) aW
 refine wY (Y.not z) z (nl (th ?_))
 rcases cnd h with ⟨J, h⟩ | ⟨J, h⟩
 ·refine WC.condT' z J (sq (rg (wY (ya z) z (nl (th (rt (At.thenR ?_)))))))
  obtain rfl := some1 h
  have aX : Stp [] (Lg.O0 A) w H p := (su_ d z)
  exact At.res (.inl z) z (.tmp z .nil) ⟨z, (se_ aX z z)⟩
 ·refine WC.condF' z J (sk (th (sq (sq (rg (wY (ym z) z ?_))))))
  have ac := aT.i d z z
  refine wY (Y.len ty32 z ac) z (wY (Y.gtr_i z z) z (nl (th ?_)))
  rcases cnd h with ⟨K, h⟩ | ⟨K, h⟩
  ·refine WC.condT' z K (sq (rg (wY (ya z) z (nl (th (rt (At.thenR ?_)))))))
   obtain rfl := some1 h
   have aY : Stp [] (Lg.O0 A) w H p := (su_ d z)
   exact At.res (.inl z) z (.tmp z .nil) ⟨z, (se_ aY z z)⟩
  ·refine WC.condF' z K (sk (th (sq (sq (rg (wY (ya z) z (nl (th (WC.block ?_)))))))))
   obtain ⟨aQ, h, L⟩ := flow1 h
   obtain ⟨aR, h⟩ := loop_some h
   refine WC.joinB 0 (σ := Own) (fun x w' => aQ = .go () ∧ Stp [] H p x w') (fun x => []) ?_ ?_
   ·refine WC.loop (σ := (Int × Own)) (fun x k w' => loopN k (ref11_Check_lp1 a1) x.1 = some aQ ∧ Stp [] H p x.2 w') (fun x => [(1, v1), (5, vi x.1)]) (0, H) aR (.cons z (.cons z .nil)) ⟨h, (sr_ _ _ _)⟩ ?_
    rintro ⟨l, aS⟩ aR bU ⟨h, j⟩
    obtain ⟨br, b6, rfl, h, q⟩ := rnd1 h
    unfold ref11_Check_lp1 at h
    try dsimp only at h j
    refine (show WC _ _ _ _ [(1, v1), (5, vi l)] _ from ?_)
    refine sq (sq (rg (wY (ym z) z (wY (ym z) z ?_))))
    have r := ac.i j z z
    refine wY (Y.len ty32 z r) z (wY (Y.lss_i z z) z (nl (th ?_)))
    rcases cnd h with ⟨M, h⟩ | ⟨M, h⟩
    ·refine WC.condT' z M (sk (th (sq (WC.block (sq (sq (rg (wY (ym z) z (wY (ym z) z ?_)))))))))
     obtain ⟨W, aZ, h⟩ := bnd h
     obtain ⟨b7, bK, bL, bW, a2, a3, a4, P, an, a5⟩ := Sl.at2 r aZ
     obtain ⟨_, _, rfl, rfl, rfl⟩ := an
     replace P : CellsAt _ _ _ [vs W.Key, vs W.Val] := P
     have ao := CAt.imm P a5
     refine wY (Y.indexAddr ty32 ty67 z a2 z a3 a4) z (wY (yf fo67_0 z) z (wY (yl ty9 z z (ao.at_.sub 0 [vs W.Key] z)) z ?_))
     obtain ⟨b8, a6, h⟩ := bnd h
     refine WL.call (vals := [vs W.Key]) kok93 z z (c_ref11_Name a6) ?_
     rintro bX a7 ⟨rfl, a8⟩
     obtain ⟨ad, bs, bt, m⟩ := adoptE aS (fun k => 1) a8
     refine wY (Y.not z) z (wY (ym z) z ?_)
     obtain ⟨bu, h, a9⟩ := bnd h
     refine WL.cut 8 (σ := (Bool × Own)) (fun x w' => x.1 = bu ∧ Stp [] ad a7 x.2 w') (fun x => [(1, v1), (5, vi l), (34, vB x.1)]) ?_ ?_
     ·rcases cnd h with ⟨Q, h⟩ | ⟨Q, h⟩
      ·refine WL.ren 26 z (congrArg vB Q) (WL.gS z z z z (WL.gS z z z z (WL.gS z z z z (WL.gS z z z z (WL.gS z z z z (WL.gS z z z z (WL.gS z z z z (wY (Y.pick (b := true) z z) z ?_))))))))
       exact nl (At.join (σ := (Bool × Own)) (true, ad) ⟨some1 h, (sr_ _ _ _)⟩ (.cons z (.cons z (.cons z .nil))))
      ·refine WL.ren 26 z (congrArg vB Q) (ug z z (wY (ym z) z (ug z z (wY (ym z) z (ug z z ?_)))))
       obtain ⟨X, ba, h⟩ := bnd h
       have bb := r.i m z z
       obtain ⟨b9, bM, bO, bY, bc, bd, bf, S, ap, bg⟩ := Sl.at2 bb ba
       obtain ⟨_, _, rfl, rfl, rfl⟩ := ap
       replace S : CellsAt _ _ _ [vs X.Key, vs X.Val] := S
       have aq := CAt.imm S bg
       refine wY (Y.indexAddr ty32 ty67 z bc z bd bf) z (ug z z (wY (yf fo67_1 z) z (ug z z (wY (yl ty9 z z (aq.at_.sub 1 [vs X.Val] z)) z (ug z z ?_)))))
       obtain ⟨bw, bh, h⟩ := bnd h
       refine WL.call (vals := [vs X.Val]) kok94 z z (c_ref11_Value bh) ?_
       rintro bZ b0 ⟨rfl, bi⟩
       obtain ⟨bx, bz, bA, ar⟩ := adoptE ad (fun k => 1) bi
       refine ug z z (wY (Y.not z) z (wY (Y.pick (b := false) z z) z ?_))
       exact nl (At.join (σ := (Bool × Own)) ((!bw), bx) ⟨some1 h, (su_ ar z)⟩ (.cons z (.cons z (.cons z .nil))))
     ·rintro ⟨bB, I⟩ t ⟨rfl, n⟩
      replace h := a9
      try dsimp only at h n
      refine (show WL _ _ _ _ _ [(1, v1), (5, vi l), (34, vB bB)] _ from ?_)
      refine nl (th ?_)
      rcases cnd h with ⟨T, h⟩ | ⟨T, h⟩
      ·refine WC.condT' z T (sq (rg (wY (ya z) z (nl (th (rt (At.thenR (At.inBlockR (At.thenR ?_)))))))))
       refine At.loopR ?_
       have h := outr1 h q L
       refine At.joinBR (At.inBlockR (At.thenR ?_))
       obtain rfl := some1 h
       have bj : Stp [] (Lg.O0 A) w I t := (tr_ (su_ d z) (tr_ (su_ j z) (tr_ (su_ m z) (su_ n z))))
       exact At.res (.inl z) z (.tmp z .nil) ⟨z, (se_ bj z z)⟩
      ·refine WC.condF' z T (sk (th (sq (rg (wY (ya z) z (nl (th ?_)))))))
       obtain ⟨bC, h, ae⟩ := flow1 h
       refine WC.join (σ := Own) (fun x w' => bC = .go () ∧ Stp [] I t x w') (fun x => [(1, v1), (5, vi l)]) ?_ ?_
       ·refine WC.block ?_
        obtain ⟨af, h, Z⟩ := flow1 h
        obtain ⟨ah, h⟩ := loop_some h
        refine WC.joinB 2 (σ := Own) (fun x w' => af = .go () ∧ Stp [] I t x w') (fun x => [(1, v1), (5, vi l)]) ?_ ?_
        ·refine WC.loop (σ := (Int × Own)) (fun x k w' => loopN k (ref11_Check_lp2 a1 l) x.1 = some af ∧ Stp [] I t x.2 w') (fun x => [(1, v1), (5, vi l), (6, vi x.1)]) (0, I) ah (.cons z (.cons z (.cons z .nil))) ⟨h, (sr_ _ _ _)⟩ ?_
         rintro ⟨bD, aa⟩ ah bP ⟨h, c⟩
         obtain ⟨bk, b1, rfl, h, C⟩ := rnd1 h
         unfold ref11_Check_lp2 at h
         try dsimp only at h c
         refine (show WC _ _ _ _ [(1, v1), (5, vi l), (6, vi bD)] _ from ?_)
         refine sq (sq (rg (wY (ym z) z (wY (ym z) z (wY (Y.lss_i z z) z (nl (th ?_)))))))
         rcases cnd h with ⟨D, h⟩ | ⟨D, h⟩
         ·refine WC.condT' z D (sk (th (sq (WC.block (sq (WC.draw 10 aa fmix (by kernel_rfl) ?_))))))
          intro au o
          refine WS.y (ym z) z (WS.y (ym z) z ?_)
          obtain ⟨U, av, h⟩ := bnd h
          have ab := (((r.i m z z).i n z z).i c z z).i o z z
          obtain ⟨b2, bE, bF, bQ, aA, aC, aD, E, ai, aE⟩ := Sl.at2 ab av
          obtain ⟨_, _, rfl, rfl, rfl⟩ := ai
          replace E : CellsAt _ _ _ [vs U.Key, vs U.Val] := E
          have aj := CAt.imm E aE
          refine WS.y (Y.indexAddr ty32 ty67 z aA z aC aD) z (WS.y (yf fo67_0 z) z (WS.y (yl ty9 z z (aj.at_.sub 0 [vs U.Key] z)) z (WS.y (ym z) z (WS.y (ym z) z ?_))))
          obtain ⟨V, aF, h⟩ := bnd h
          obtain ⟨b3, bG, bH, bR, aG, aH, aI, F, ak, aJ⟩ := Sl.at2 ab aF
          obtain ⟨_, _, rfl, rfl, rfl⟩ := ak
          replace F : CellsAt _ _ _ [vs V.Key, vs V.Val] := F
          have al := CAt.imm F aJ
          refine WS.y (Y.indexAddr ty32 ty67 z aG z aH aI) z (WS.y (yf fo67_0 z) z (WS.y (yl ty9 z z (al.at_.sub 0 [vs V.Key] z)) z (WS.tail (wY (Y.eql_s z z) z (nl (th ?_))))))
          rcases cnd h with ⟨G, h⟩ | ⟨G, h⟩
          ·refine WC.condT' z G (sq (rg (wY (ya z) z (nl (th (rt (At.inBlockR (At.thenR (At.loopR ?_)))))))))
           have h := outr1 h C Z
           refine At.joinBR (At.inBlockR ?_)
           have h := outs1 h ae
           refine At.joinR (At.inBlockR (At.thenR (At.loopR ?_)))
           have h := outr1 h q L
           refine At.joinBR (At.inBlockR (At.thenR ?_))
           obtain rfl := some1 h
           have aK : Stp [] (Lg.O0 A) w aa au := (tr_ (su_ d z) (tr_ (su_ j z) (tr_ (su_ m z) (tr_ (su_ n z) (tr_ (su_ c z) (su_ o z))))))
           exact At.res (.inl z) z (.tmp z .nil) ⟨z, (se_ aK z z)⟩
          ·refine WC.condF' z G (sk (At.inBlock (th (rg (wY (ym z) z (wY (Y.add_i z z) z ?_))))))
           obtain ⟨bl, aL, h⟩ := lt1 h
           refine WL.yE (ya z) (congrArg vi aL.symm) z (nl ?_)
           exact At.round (bl, aa) bk (Nat.lt_succ_self _) ⟨next1 h C, (tr_ (su_ c z) (su_ o z))⟩ (.cons z (.cons z (.cons z .nil)))
         ·refine WC.condF' z D (WC.exit (At.thenX (At.loopX ?_)))
          exact At.hitB (σ := Own) aa ⟨brk1 h C, (su_ c z)⟩ (.cons z (.cons z .nil))
        ·rintro bm bS ⟨rfl, am⟩
         replace h := flowK_go Z
         refine (show At _ _ _ [(1, v1), (5, vi l)] _ from ?_)
         refine At.inBlockHit ?_
         exact At.join (σ := Own) bm ⟨go2 h, (su_ am z)⟩ (.cons z (.cons z .nil))
       ·rintro bI b4 ⟨rfl, aM⟩
        replace h := flowK_go ae
        refine (show At _ _ _ [(1, v1), (5, vi l)] _ from ?_)
        refine At.inBlock (th (rg (wY (ym z) z (wY (Y.add_i z z) z ?_))))
        obtain ⟨bn, aN, h⟩ := lt1 h
        refine WL.yE (ya z) (congrArg vi aN.symm) z (nl ?_)
        exact At.round (bn, bI) br (Nat.lt_succ_self _) ⟨next1 h q, (tr_ (su_ j z) (tr_ (su_ m z) (tr_ (su_ n z) (su_ aM z))))⟩ (.cons z (.cons z .nil))
    ·refine WC.condF' z M (WC.exit (At.thenX (At.loopX ?_)))
     exact At.hitB (σ := Own) aS ⟨brk1 h q, (su_ j z)⟩ .nil
   ·rintro bJ bo ⟨rfl, aO⟩
    replace h := flowK_go L
    refine (show At _ _ _ [] _ from ?_)
    refine At.inBlockHit (th (sq (rg (wY (ya z) z (nl (th (rt ?_)))))))
    obtain rfl := some1 h
    have aP : Stp [] (Lg.O0 A) w bJ bo := (tr_ (su_ d z) (su_ aO z))
    exact At.res (.inl z) z (.tmp z .nil) ⟨z, (se_ aP z z)⟩
theorem c_ref08_SameSide {A : Nat → Prop} {v0_1 : Value} {a0 : api_Side} {v1_1 : Value} {a1 : api_Side} {w : World} (hs0_1 : Sl Rep.u w A v0_1 a0.Counts) (hs1_1 : Sl Rep.u w A v1_1 a1.Counts) {r0 : Bool} (h : ref08_SameSide a0 a1 = some r0) : Rets Tryz.prog 62 [ag [vi a0.Offset, v0_1], ag [vi a1.Offset, v1_1]] w (fun v w' => v = vB r0 ∧ Ext w w') := by
 unfold ref08_SameSide at h
 refine Rets.enter Tryz.func62 z z ?_
 have n : Sl Rep.u w (imm (Lg.O0 A)) v0_1 a0.Counts := (Sl.start hs0_1)
 have Z : Sl Rep.u w (imm (Lg.O0 A)) v1_1 a1.Counts := (Sl.start hs1_1)
 refine (show WC _ _ _ _ [(0, ag [vi a0.Offset, v0_1]), (1, ag [vi a1.Offset, v1_1])] _ from ?_)
 refine sq (rg ?_)
 have aa := h
 obtain ⟨aK, aL, aM, rfl⟩ := n.shape
 have h := aa
 refine WL.box (O := (Lg.O0 A)) 11 [vi a0.Offset, (vl aK aL aM)] z z z ?_
 intro H aN a4 j ab
 have o := Z.i j z z
 have ac := h
 obtain ⟨aO, aP, aQ, rfl⟩ := o.shape
 have h := ac
 refine WL.box (O := aN) 12 [vi a1.Offset, (vl aO aP aQ)] z z z ?_
 intro I J m c p
 refine wY (ya z) z (nl (th (sq (sq (rg (wY (yf fo36_0 z) z ?_))))))
 have q := ab.st c z
 refine wY (yl ty3 z z (q.cell 0 _ z)) z (wY (yf fo36_0 z) z (wY (yl ty3 z z (p.cell 0 _ z)) z (wY (Y.neq_i z z) z (wY (ym z) z ?_))))
 refine WL.cut 8 (σ := Unit) (fun _ w' => m = w') (fun _ => [(2, pt H 0), (3, pt I 0), (19, vB ((!decide (a0.Offset = a1.Offset)) || (!decide ((a0.Counts.length : Int) = (a1.Counts.length : Int)))))]) ?_ ?_
 ·refine WL.part 11 z (fun r => ?_) (fun r => ?_)
  ·refine WL.gS z z z z (WL.gS z z z z (WL.gS z z z z (WL.gS z z z z (WL.gS z z z z (WL.gS z z z z (WL.gS z z z z (wY (Y.pick (b := true) z z) z (WL.ren (v' := vB ((!decide (a0.Offset = a1.Offset)) || (!decide ((a0.Counts.length : Int) = (a1.Counts.length : Int))))) 19 z (congrArg vB (orT r)) ?_))))))))
   exact nl (At.join () z (.cons z (.cons z (.cons z .nil))))
  ·refine ug z z (wY (yf fo36_1 z) z (ug z z (wY (yl ty34 z z (q.cell 1 _ z)) z (ug z z ?_))))
   have ae := (n.i j z z).i c z z
   refine wY (Y.len ty34 z ae) z (ug z z (wY (yf fo36_1 z) z (ug z z (wY (yl ty34 z z (p.cell 1 _ z)) z (ug z z ?_)))))
   have af := o.i c z z
   refine wY (Y.len ty34 z af) z (ug z z (wY (Y.neq_i z z) z (wY (Y.pick (b := false) z z) z (WL.ren (v' := vB ((!decide (a0.Offset = a1.Offset)) || (!decide ((a0.Counts.length : Int) = (a1.Counts.length : Int))))) 19 z (congrArg vB (orF r)) ?_))))
   exact nl (At.join () z (.cons z (.cons z (.cons z .nil))))
 ·rintro _ _ rfl
  refine (show WL _ _ _ _ _ [(2, pt H 0), (3, pt I 0), (19, vB ((!decide (a0.Offset = a1.Offset)) || (!decide ((a0.Counts.length : Int) = (a1.Counts.length : Int)))))] _ from ?_)
  refine nl (th ?_)
  rcases cnd h with ⟨t, h⟩ | ⟨t, h⟩
  ·refine WC.condT' z t (sq (rg (wY (ya z) z (nl (th (rt (At.thenR ?_)))))))
   obtain rfl := some1 h
   have ah : Stp [] (Lg.O0 A) w J m := (tr_ (su_ j z) (su_ c z))
   exact At.res (.inl z) z (.tmp z .nil) ⟨z, (se_ ah z z)⟩
  ·refine WC.condF' z t (sk (th (sq (sq (rg (wY (ya z) z (nl (th (WC.block ?_)))))))))
   obtain ⟨W, h, L⟩ := flow1 h
   obtain ⟨X, h⟩ := loop_some h
   refine WC.joinB 0 (σ := Own) (fun x w' => W = .go () ∧ Stp [] J m x w') (fun x => []) ?_ ?_
   ·refine WC.loop (σ := (Int × Own)) (fun x k w' => loopN k (ref08_SameSide_lp1 a0 a1) x.1 = some W ∧ Stp [] J m x.2 w') (fun x => [(2, pt H 0), (3, pt I 0), (5, vi x.1)]) (0, J) X (.cons z (.cons z (.cons z .nil))) ⟨h, (sr_ _ _ _)⟩ ?_
    rintro ⟨aR, K⟩ X a5 ⟨h, d⟩
    obtain ⟨aS, a8, rfl, h, C⟩ := rnd1 h
    unfold ref08_SameSide_lp1 at h
    try dsimp only at h d
    refine (show WC _ _ _ _ [(2, pt H 0), (3, pt I 0), (5, vi aR)] _ from ?_)
    refine sq (sq (rg (wY (ym z) z (wY (yf fo36_1 z) z ?_))))
    have M := q.st d z
    refine wY (yl ty34 z z (M.cell 1 _ z)) z ?_
    have P := ((n.i j z z).i c z z).i d z z
    refine wY (Y.len ty34 z P) z (wY (Y.lss_i z z) z (nl (th ?_)))
    rcases cnd h with ⟨D, h⟩ | ⟨D, h⟩
    ·refine WC.condT' z D (sk (th (sq (WC.block (sq (WC.draw 10 K fmix (by kernel_rfl) ?_))))))
     intro ak l
     refine WS.y (yf fo36_1 z) z ?_
     have al := M.st l z
     refine WS.y (yl ty34 z z (al.cell 1 _ z)) z (WS.y (ym z) z ?_)
     obtain ⟨aT, am, h⟩ := bnd h
     have an := P.i l z z
     obtain ⟨a9, aY, aZ, a6, ao, ap, aq, E, Q, ar⟩ := Sl.at2 an am
     obtain rfl := Q
     replace E : CellsAt _ _ _ [vu aT] := E
     have S := CAt.imm E ar
     refine WS.y (Y.indexAddr ty34 ty33 z ao z ap aq) z (WS.y (yl ty33 z z S.at_) z (WS.y (yf fo36_1 z) z ?_))
     have av := (p.st d z).st l z
     refine WS.y (yl ty34 z z (av.cell 1 _ z)) z (WS.y (ym z) z ?_)
     obtain ⟨aU, ax, h⟩ := bnd h
     have aA := ((o.i c z z).i d z z).i l z z
     obtain ⟨ba, a2, a3, a7, aC, aD, aE, F, T, aF⟩ := Sl.at2 aA ax
     obtain rfl := T
     replace F : CellsAt _ _ _ [vu aU] := F
     have U := CAt.imm F aF
     refine WS.y (Y.indexAddr ty34 ty33 z aC z aD aE) z (WS.y (yl ty33 z z U.at_) z (WS.tail (wY (Y.neq_u z z) z (nl (th ?_)))))
     rcases cnd h with ⟨G, h⟩ | ⟨G, h⟩
     ·refine WC.condT' z G (sq (rg (wY (ya z) z (nl (th (rt (At.inBlockR (At.thenR (At.loopR ?_)))))))))
      have h := outr1 h C L
      refine At.joinBR (At.inBlockR (At.thenR ?_))
      obtain rfl := some1 h
      have aG : Stp [] (Lg.O0 A) w K ak := (tr_ (su_ j z) (tr_ (su_ c z) (tr_ (su_ d z) (su_ l z))))
      exact At.res (.inl z) z (.tmp z .nil) ⟨z, (se_ aG z z)⟩
     ·refine WC.condF' z G (sk (At.inBlock (th (rg (wY (ym z) z (wY (Y.add_i z z) z ?_))))))
      obtain ⟨aW, aH, h⟩ := lt1 h
      refine WL.yE (ya z) (congrArg vi aH.symm) z (nl ?_)
      exact At.round (aW, K) aS (Nat.lt_succ_self _) ⟨next1 h C, (tr_ (su_ d z) (su_ l z))⟩ (.cons z (.cons z (.cons z .nil)))
    ·refine WC.condF' z D (WC.exit (At.thenX (At.loopX ?_)))
     exact At.hitB (σ := Own) K ⟨brk1 h C, (su_ d z)⟩ .nil
   ·rintro aX aI ⟨rfl, V⟩
    replace h := flowK_go L
    refine (show At _ _ _ [] _ from ?_)
    refine At.inBlockHit (th (sq (rg (wY (ya z) z (nl (th (rt ?_)))))))
    obtain rfl := some1 h
    have aJ : Stp [] (Lg.O0 A) w aX aI := (tr_ (su_ j z) (tr_ (su_ c z) (su_ V z)))
    exact At.res (.inl z) z (.tmp z .nil) ⟨z, (se_ aJ z z)⟩
theorem c_ref08_Same {A : Nat → Prop} {v0_3 : Value} {v0_5 : Value} {a0 : api_Hist} {v1_3 : Value} {v1_5 : Value} {a1 : api_Hist} {w : World} (hs0_3 : Sl Rep.u w A v0_3 a0.Pos.Counts) (hs0_5 : Sl Rep.u w A v0_5 a0.Neg.Counts) (hs1_3 : Sl Rep.u w A v1_3 a1.Pos.Counts) (hs1_5 : Sl Rep.u w A v1_5 a1.Neg.Counts) {r0 : Bool} (h : ref08_Same a0 a1 = some r0) : Rets Tryz.prog 31 [ag (hl a0 v0_3 v0_5), ag (hl a1 v1_3 v1_5)] w (fun v w' => v = vB r0 ∧ Ext w w') := by
 unfold ref08_Same at h
 refine Rets.enter Tryz.func31 z z ?_
 have C : Sl Rep.u w (imm (Lg.O0 A)) v0_3 a0.Pos.Counts := (Sl.start hs0_3)
 have D : Sl Rep.u w (imm (Lg.O0 A)) v0_5 a0.Neg.Counts := (Sl.start hs0_5)
 have ab : Sl Rep.u w (imm (Lg.O0 A)) v1_3 a1.Pos.Counts := (Sl.start hs1_3)
 have ac : Sl Rep.u w (imm (Lg.O0 A)) v1_5 a1.Neg.Counts := (Sl.start hs1_5)
 refine (show WC _ _ _ _ [(0, ag (hl a0 v0_3 v0_5)), (1, ag (hl a1 v1_3 v1_5))] _ from ?_)
 refine sq (rg ?_)
 have ad := h
 obtain ⟨E, F, G, rfl⟩ := C.shape
 have h := ad
 have ae := h
 obtain ⟨H, I, J, rfl⟩ := D.shape
 have h := ae
 refine WL.box (O := (Lg.O0 A)) 11 (hl a0 (vl E F G) (vl H I J)) z z z ?_
 intro q aG aT j af
 have K := ab.i j z z
 have ah := h
 obtain ⟨L, M, P, rfl⟩ := K.shape
 have h := ah
 have Q := ac.i j z z
 have ai := h
 obtain ⟨S, T, U, rfl⟩ := Q.shape
 have h := ai
 refine WL.box (O := aG) 12 (hl a1 (vl L M P) (vl S T U)) z z z ?_
 intro r V W c l
 refine wY (ya z) z (nl (th (sq (rg (wY (yf fo38_0 z) z ?_)))))
 have m := af.st c z
 refine wY (yl ty3 z z (m.cell 0 _ z)) z (wY (yf fo38_0 z) z (wY (yl ty3 z z (l.cell 0 _ z)) z (wY (Y.eql_i z z) z (wY (ym z) z ?_))))
 refine WL.cut 6 (σ := Unit) (fun _ w' => W = w') (fun _ => [(2, pt q 0), (3, pt r 0), (16, vB ((decide (a0.Scale = a1.Scale)) && (decide (a0.Zero = a1.Zero))))]) ?_ ?_
 ·refine WL.part 10 z (fun n => ?_) (fun n => ?_)
  ·refine ug z z (wY (yf fo38_1 z) z (ug z z (wY (yl ty33 z z (m.cell 1 _ z)) z (ug z z (wY (yf fo38_1 z) z (ug z z (wY (yl ty33 z z (l.cell 1 _ z)) z (ug z z (wY (Y.eql_u z z) z ?_)))))))))
   refine wY (Y.pick (b := true) z z) z (WL.ren (v' := vB ((decide (a0.Scale = a1.Scale)) && (decide (a0.Zero = a1.Zero)))) 16 z (congrArg vB (andT n)) ?_)
   exact nl (At.join () z (.cons z (.cons z (.cons z .nil))))
  ·refine WL.gS z z z z (WL.gS z z z z (WL.gS z z z z (WL.gS z z z z (WL.gS z z z z (wY (Y.pick (b := false) z z) z (WL.ren (v' := vB ((decide (a0.Scale = a1.Scale)) && (decide (a0.Zero = a1.Zero)))) 16 z (congrArg vB (andF n)) ?_))))))
   exact nl (At.join () z (.cons z (.cons z (.cons z .nil))))
 ·rintro _ _ rfl
  refine (show WL _ _ _ _ _ [(2, pt q 0), (3, pt r 0), (16, vB ((decide (a0.Scale = a1.Scale)) && (decide (a0.Zero = a1.Zero))))] _ from ?_)
  refine wY (ym z) z ?_
  obtain ⟨aH, h, aj⟩ := bnd h
  refine WL.cut 6 (σ := (Bool × Own)) (fun x w' => x.1 = aH ∧ Stp [] V W x.2 w') (fun x => [(2, pt q 0), (3, pt r 0), (23, vB x.1)]) ?_ ?_
  ·rcases cnd h with ⟨o, h⟩ | ⟨o, h⟩
   ·refine WL.ren 17 z (congrArg vB o) (ug z z (wY (yf fo38_2 z) z (ug z z (wY (yL ty36 z z (m.cells 2 [vi a0.Pos.Offset, (vl E F G)] z) z) z (ug z z (wY (yf fo38_2 z) z (ug z z (wY (yL ty36 z z (l.cells 2 [vi a1.Pos.Offset, (vl L M P)] z) z) z (ug z z ?_)))))))))
    have al := (C.i j z z).i c z z
    have am := K.i c z z
    obtain ⟨aI, an, h⟩ := bnd h
    refine WL.call (vals := [ag [vi a0.Pos.Offset, (vl E F G)], ag [vi a1.Pos.Offset, (vl L M P)]]) kok62 z z (c_ref08_SameSide (A := fun _ => True) (a0 := a0.Pos) (a1 := a1.Pos) (Sl.all al) (Sl.all am) an) ?_
    rintro aU aW ⟨rfl, ao⟩
    obtain ⟨aJ, aK, aL, Z⟩ := adoptE V (fun k => 1) ao
    refine wY (Y.pick (b := true) z z) z ?_
    exact nl (At.join (σ := (Bool × Own)) (aI, aJ) ⟨some1 h, (su_ Z z)⟩ (.cons z (.cons z (.cons z .nil))))
   ·refine WL.ren 17 z (congrArg vB o) (WL.gS z z z z (WL.gS z z z z (WL.gS z z z z (WL.gS z z z z (WL.gS z z z z (wY (Y.pick (b := false) z z) z ?_))))))
    exact nl (At.join (σ := (Bool × Own)) (false, V) ⟨some1 h, (sr_ _ _ _)⟩ (.cons z (.cons z (.cons z .nil))))
  ·rintro ⟨aM, X⟩ ap ⟨rfl, d⟩
   replace h := aj
   try dsimp only at h d
   refine (show WL _ _ _ _ _ [(2, pt q 0), (3, pt r 0), (23, vB aM)] _ from ?_)
   refine wY (ym z) z ?_
   obtain ⟨aN, h, aq⟩ := bnd h
   refine WL.cut 6 (σ := (Bool × Own)) (fun x w' => x.1 = aN ∧ Stp [] X ap x.2 w') (fun x => [(30, vB x.1)]) ?_ ?_
   ·rcases cnd h with ⟨p, h⟩ | ⟨p, h⟩
    ·refine WL.ren 24 z (congrArg vB p) (ug z z (wY (yf fo38_3 z) z (ug z z ?_)))
     have ar := m.st d z
     refine wY (yL ty36 z z (ar.cells 4 [vi a0.Neg.Offset, (vl H I J)] z) z) z (ug z z (wY (yf fo38_3 z) z (ug z z ?_)))
     have au := l.st d z
     refine wY (yL ty36 z z (au.cells 4 [vi a1.Neg.Offset, (vl S T U)] z) z) z (ug z z ?_)
     have ay := ((D.i j z z).i c z z).i d z z
     have aA := (Q.i c z z).i d z z
     obtain ⟨aO, aC, h⟩ := bnd h
     refine WL.call (vals := [ag [vi a0.Neg.Offset, (vl H I J)], ag [vi a1.Neg.Offset, (vl S T U)]]) kok62 z z (c_ref08_SameSide (A := fun _ => True) (a0 := a0.Neg) (a1 := a1.Neg) (Sl.all ay) (Sl.all aA) aC) ?_
     rintro aX aY ⟨rfl, aD⟩
     obtain ⟨aP, aQ, aR, aa⟩ := adoptE X (fun k => 1) aD
     refine wY (Y.pick (b := true) z z) z ?_
     exact nl (At.join (σ := (Bool × Own)) (aO, aP) ⟨some1 h, (su_ aa z)⟩ (.cons z .nil))
    ·refine WL.ren 24 z (congrArg vB p) (WL.gS z z z z (WL.gS z z z z (WL.gS z z z z (WL.gS z z z z (WL.gS z z z z (wY (Y.pick (b := false) z z) z ?_))))))
     exact nl (At.join (σ := (Bool × Own)) (false, X) ⟨some1 h, (sr_ _ _ _)⟩ (.cons z .nil))
   ·rintro ⟨x64, aS⟩ aE ⟨rfl, t⟩
    replace h := aq
    try dsimp only at h t
    refine (show WL _ _ _ _ _ [(30, vB x64)] _ from ?_)
    refine wY (ya z) z (nl (th (rt ?_)))
    obtain rfl := some1 h
    have aF : Stp [] (Lg.O0 A) w aS aE := (tr_ (su_ j z) (tr_ (su_ c z) (tr_ (su_ d z) (su_ t z))))
    exact At.res (.inl z) z (.tmp z .nil) ⟨z, (se_ aF z z)⟩
theorem c_ref12_none {A : Nat → Prop} {v0_3 : Value} {v0_5 : Value} {a0 : api_Hist} {w : World} (hs0_3 : Sl Rep.u w A v0_3 a0.Pos.Counts) (hs0_5 : Sl Rep.u w A v0_5 a0.Neg.Counts) {r0 : Bool} (h : ref12_none a0 = some r0) : Rets Tryz.prog 53 [ag (hl a0 v0_3 v0_5)] w (fun v w' => v = vB r0 ∧ Ext w w') := by
 unfold ref12_none at h
 refine Rets.enter Tryz.func53 z z ?_
 have d : Sl Rep.u w (imm (Lg.O0 A)) v0_3 a0.Pos.Counts := (Sl.start hs0_3)
 have j : Sl Rep.u w (imm (Lg.O0 A)) v0_5 a0.Neg.Counts := (Sl.start hs0_5)
 refine (show WC _ _ _ _ [(0, ag (hl a0 v0_3 v0_5))] _ from ?_)
 refine sq (rg ?_)
 have t := h
 obtain ⟨l, m, n, rfl⟩ := d.shape
 have h := t
 have C := h
 obtain ⟨o, p, q, rfl⟩ := j.shape
 have h := C
 refine WL.box (O := (Lg.O0 A)) 11 (hl a0 (vl l m n) (vl o p q)) z z z ?_
 intro T K Q c D
 refine wY (ya z) z (nl (th (sq (rg (wY (yL ty38 z z (D.cells 0 (hl a0 (vl l m n) (vl o p q)) z) z) z (wY (yb (vals := []) (cells := hzr) (fe_ z) (by kernel_rfl)) z ?_))))))
 have E := d.i c z z
 have F := j.i c z z
 obtain ⟨U, G, h⟩ := bnd h
 refine WL.call (vals := [ag (hl a0 (vl l m n) (vl o p q)), ag hzr]) kok31 z z (c_ref08_Same (A := fun _ => True) (a0 := a0) (a1 := (api_Hist.mk 0 0 (api_Side.mk 0 []) (api_Side.mk 0 []))) (Sl.all E) (Sl.all F) (Or.inl ⟨z, z⟩) (Or.inl ⟨z, z⟩) G) ?_
 rintro S H ⟨rfl, I⟩
 obtain ⟨L, M, P, r⟩ := adoptE K (fun k => 1) I
 refine wY (ya z) z (nl (th (rt ?_)))
 obtain rfl := some1 h
 have J : Stp [] (Lg.O0 A) w L H := (tr_ (su_ c z) (su_ r z))
 exact At.res (.inl z) z (.tmp z .nil) ⟨z, (se_ J z z)⟩
theorem c_ref05_Finite {a0 : UInt64} {w : World} {r0 : Bool} (h : ref05_Finite a0 = some r0) : Rets Tryz.prog 54 [vu a0] w (fun v w' => v = vB r0 ∧ Ext w w') := by
 unfold ref05_Finite at h
 refine Rets.enter Tryz.func54 z z ?_
 refine (show WC _ _ _ _ [(0, vu a0)] _ from ?_)
 refine sq (rg (wY (ya z) z (nl (th (sq (rg (wY (ym z) z (wY (Y.quo_u (b := 4503599627370496) (by decide) z z) z (wY (Y.rem_u (b := 2048) (by decide) z z) z ?_)))))))))
 refine wY (Y.neq_u (b := 2047) z z) z ?_
 obtain ⟨j, c, h⟩ := lt1 h
 refine WL.yE (ya z) (congrArg vB c.symm) z (nl (th (rt ?_)))
 obtain rfl := some1 h
 have d : Stp [] (Lg.O0 (fun _ => False)) w (Lg.O0 (fun _ => False)) w := (sr_ _ _ _)
 exact At.res (.inl z) z (.tmp z .nil) ⟨z, (se_ d z z)⟩
theorem c_ref05_Odd {a0 : UInt64} {w : World} {r0 : Bool} (h : ref05_Odd a0 = some r0) : Rets Tryz.prog 95 [vu a0] w (fun v w' => v = vB r0 ∧ Ext w w') := by
 unfold ref05_Odd at h
 refine Rets.enter Tryz.func95 z z ?_
 refine (show WC _ _ _ _ [(0, vu a0)] _ from ?_)
 refine sq (rg (wY (ya z) z (nl (th (sq (rg (wY (ym z) z (wY (Y.quo_u (b := 4503599627370496) (by decide) z z) z (wY (Y.rem_u (b := 2048) (by decide) z z) z ?_)))))))))
 refine wY (Y.eql_u (b := 2047) z z) z (wY (ym z) z ?_)
 refine WL.cut 4 (σ := Unit) (fun _ w' => w = w') (fun _ => [(11, vB ((decide (((a0 / 4503599627370496) % 2048) = 2047)) && (!decide ((a0 % 4503599627370496) = 0))))]) ?_ ?_
 ·refine WL.part 7 z (fun c => ?_) (fun c => ?_)
  ·refine ug z z (wY (ym z) z (ug z z (wY (Y.rem_u (b := 4503599627370496) (by decide) z z) z (ug z z (wY (Y.neq_u (b := 0) z z) z (wY (Y.pick (b := true) z z) z (WL.ren (v' := vB ((decide (((a0 / 4503599627370496) % 2048) = 2047)) && (!decide ((a0 % 4503599627370496) = 0)))) 11 z (congrArg vB (andT c)) ?_)))))))
   exact nl (At.join () z (.cons z .nil))
  ·refine WL.gS z z z z (WL.gS z z z z (WL.gS z z z z (wY (Y.pick (b := false) z z) z (WL.ren (v' := vB ((decide (((a0 / 4503599627370496) % 2048) = 2047)) && (!decide ((a0 % 4503599627370496) = 0)))) 11 z (congrArg vB (andF c)) ?_))))
   exact nl (At.join () z (.cons z .nil))
 ·rintro _ _ rfl
  refine (show WL _ _ _ _ _ [(11, vB ((decide (((a0 / 4503599627370496) % 2048) = 2047)) && (!decide ((a0 % 4503599627370496) = 0))))] _ from ?_)
  obtain ⟨l, d, h⟩ := lt1 h
  refine WL.yE (ya z) (congrArg vB d.symm) z (nl (th (rt ?_)))
  obtain rfl := some1 h
  have j : Stp [] (Lg.O0 (fun _ => False)) w (Lg.O0 (fun _ => False)) w := (sr_ _ _ _)
  exact At.res (.inl z) z (.tmp z .nil) ⟨z, (se_ j z z)⟩
theorem c_ref05_Less {a0 : UInt64} {a1 : UInt64} {w : World} {r0 : Bool} (h : ref05_Less a0 a1 = some r0) : Rets Tryz.prog 55 [vu a0, vu a1] w (fun v w' => v = vB r0 ∧ Ext w w') := by
 unfold ref05_Less at h
 refine Rets.enter Tryz.func55 z z ?_
 refine (show WC _ _ _ _ [(0, vu a0), (1, vu a1)] _ from ?_)
 refine sq (rg (wY (ya z) z (nl (th (sq (sq (rg (wY (ym z) z ?_))))))))
 obtain ⟨an, H, h⟩ := bnd h
 refine WL.call (vals := [vu a0]) kok95 z z (c_ref05_Odd H) ?_
 rintro ak I ⟨rfl, J⟩
 obtain ⟨F, ab, ac, m⟩ := adoptE (Lg.O0 (fun _ => False)) (fun k => 1) J
 refine wY (ym z) z ?_
 obtain ⟨ad, h, K⟩ := bnd h
 refine WL.cut 3 (σ := (Bool × Own)) (fun x w' => x.1 = ad ∧ Stp [] F I x.2 w') (fun x => [(0, vu a0), (1, vu a1), (12, vB x.1)]) ?_ ?_
 ·rcases cnd h with ⟨o, h⟩ | ⟨o, h⟩
  ·refine WL.ren 9 z (congrArg vB o) (WL.gS z z z z (WL.gS z z z z (wY (Y.pick (b := true) z z) z ?_)))
   exact nl (At.join (σ := (Bool × Own)) (true, F) ⟨some1 h, (sr_ _ _ _)⟩ (.cons z (.cons z (.cons z .nil))))
  ·refine WL.ren 9 z (congrArg vB o) (ug z z (wY (ym z) z (ug z z ?_)))
   obtain ⟨ae, L, h⟩ := bnd h
   refine WL.call (vals := [vu a1]) kok95 z z (c_ref05_Odd L) ?_
   rintro al am ⟨rfl, M⟩
   obtain ⟨af, ah, ai, G⟩ := adoptE F (fun k => 1) M
   refine wY (Y.pick (b := false) z z) z ?_
   exact nl (At.join (σ := (Bool × Own)) (ae, af) ⟨some1 h, (su_ G z)⟩ (.cons z (.cons z (.cons z .nil))))
 ·rintro ⟨aj, n⟩ c ⟨rfl, d⟩
  replace h := K
  try dsimp only at h d
  refine (show WL _ _ _ _ _ [(0, vu a0), (1, vu a1), (12, vB aj)] _ from ?_)
  refine nl (th ?_)
  rcases cnd h with ⟨p, h⟩ | ⟨p, h⟩
  ·refine WC.condT' z p (sq (rg (wY (ya z) z (nl (th (rt (At.thenR ?_)))))))
   obtain rfl := some1 h
   have P : Stp [] (Lg.O0 (fun _ => False)) w n c := (tr_ (su_ m z) (su_ d z))
   exact At.res (.inl z) z (.tmp z .nil) ⟨z, (se_ P z z)⟩
  ·refine WC.condF' z p (sk (th (sq (rg (wY (ym z) z (wY (Y.rem_u (b := 9223372036854775808) (by decide) z z) z (wY (ym z) z (wY (Y.rem_u (b := 9223372036854775808) (by decide) z z) z ?_))))))))
   obtain ⟨j, Q, h⟩ := lt1 h
   refine WL.yE (ya z) (congrArg vu Q.symm) z ?_
   obtain ⟨l, S, h⟩ := lt1 h
   refine WL.yE (ya z) (congrArg vu S.symm) z (nl (th (sq (sq (rg (wY (ym z) z (wY (Y.eql_u (b := 0) z z) z (wY (ym z) z ?_))))))))
   refine WL.cut 3 (σ := Unit) (fun _ w' => c = w') (fun _ => [(0, vu a0), (1, vu a1), (5, vu j), (6, vu l), (22, vB ((decide (j = 0)) && (decide (l = 0))))]) ?_ ?_
   ·refine WL.part 19 z (fun q => ?_) (fun q => ?_)
    ·refine ug z z (wY (ym z) z (ug z z (wY (Y.eql_u (b := 0) z z) z (wY (Y.pick (b := true) z z) z (WL.ren (v' := vB ((decide (j = 0)) && (decide (l = 0)))) 22 z (congrArg vB (andT q)) ?_)))))
     exact nl (At.join () z (.cons z (.cons z (.cons z (.cons z (.cons z .nil))))))
    ·refine WL.gS z z z z (WL.gS z z z z (wY (Y.pick (b := false) z z) z (WL.ren (v' := vB ((decide (j = 0)) && (decide (l = 0)))) 22 z (congrArg vB (andF q)) ?_)))
     exact nl (At.join () z (.cons z (.cons z (.cons z (.cons z (.cons z .nil))))))
   ·rintro _ _ rfl
    refine (show WL _ _ _ _ _ [(0, vu a0), (1, vu a1), (5, vu j), (6, vu l), (22, vB ((decide (j = 0)) && (decide (l = 0))))] _ from ?_)
    refine nl (th ?_)
    rcases cnd h with ⟨r, h⟩ | ⟨r, h⟩
    ·refine WC.condT' z r (sq (rg (wY (ya z) z (nl (th (rt (At.thenR ?_)))))))
     obtain rfl := some1 h
     have T : Stp [] (Lg.O0 (fun _ => False)) w n c := (tr_ (su_ m z) (su_ d z))
     exact At.res (.inl z) z (.tmp z .nil) ⟨z, (se_ T z z)⟩
    ·refine WC.condF' z r (sk (th (sq (sq (rg (wY (ym z) z (wY (Y.geq_u (b := 9223372036854775808) z z) z (wY (ym z) z ?_))))))))
     refine WL.cut 3 (σ := Unit) (fun _ w' => c = w') (fun _ => [(0, vu a0), (1, vu a1), (5, vu j), (6, vu l), (28, vB ((decide (9223372036854775808 ≤ a0)) && (decide (9223372036854775808 ≤ a1))))]) ?_ ?_
     ·refine WL.part 25 z (fun t => ?_) (fun t => ?_)
      ·refine ug z z (wY (ym z) z (ug z z (wY (Y.geq_u (b := 9223372036854775808) z z) z (wY (Y.pick (b := true) z z) z (WL.ren (v' := vB ((decide (9223372036854775808 ≤ a0)) && (decide (9223372036854775808 ≤ a1)))) 28 z (congrArg vB (andT t)) ?_)))))
       exact nl (At.join () z (.cons z (.cons z (.cons z (.cons z (.cons z .nil))))))
      ·refine WL.gS z z z z (WL.gS z z z z (wY (Y.pick (b := false) z z) z (WL.ren (v' := vB ((decide (9223372036854775808 ≤ a0)) && (decide (9223372036854775808 ≤ a1)))) 28 z (congrArg vB (andF t)) ?_)))
       exact nl (At.join () z (.cons z (.cons z (.cons z (.cons z (.cons z .nil))))))
     ·rintro _ _ rfl
      refine (show WL _ _ _ _ _ [(0, vu a0), (1, vu a1), (5, vu j), (6, vu l), (28, vB ((decide (9223372036854775808 ≤ a0)) && (decide (9223372036854775808 ≤ a1))))] _ from ?_)
      refine nl (th ?_)
      rcases cnd h with ⟨C, h⟩ | ⟨C, h⟩
      ·refine WC.condT' z C (sq (rg (wY (ym z) z (wY (ym z) z (wY (Y.gtr_u z z) z ?_)))))
       obtain ⟨ao, U, h⟩ := lt1 h
       refine WL.yE (ya z) (congrArg vB U.symm) z (nl (th (rt (At.thenR ?_))))
       obtain rfl := some1 h
       have V : Stp [] (Lg.O0 (fun _ => False)) w n c := (tr_ (su_ m z) (su_ d z))
       exact At.res (.inl z) z (.tmp z .nil) ⟨z, (se_ V z z)⟩
      ·refine WC.condF' z C (sk (th (sq (sq (rg (wY (ym z) z (wY (Y.lss_u (b := 9223372036854775808) z z) z (wY (ym z) z ?_))))))))
       refine WL.cut 3 (σ := Unit) (fun _ w' => c = w') (fun _ => [(0, vu a0), (5, vu j), (6, vu l), (37, vB ((decide (a0 < 9223372036854775808)) && (decide (a1 < 9223372036854775808))))]) ?_ ?_
       ·refine WL.part 34 z (fun D => ?_) (fun D => ?_)
        ·refine ug z z (wY (ym z) z (ug z z (wY (Y.lss_u (b := 9223372036854775808) z z) z (wY (Y.pick (b := true) z z) z (WL.ren (v' := vB ((decide (a0 < 9223372036854775808)) && (decide (a1 < 9223372036854775808)))) 37 z (congrArg vB (andT D)) ?_)))))
         exact nl (At.join () z (.cons z (.cons z (.cons z (.cons z .nil)))))
        ·refine WL.gS z z z z (WL.gS z z z z (wY (Y.pick (b := false) z z) z (WL.ren (v' := vB ((decide (a0 < 9223372036854775808)) && (decide (a1 < 9223372036854775808)))) 37 z (congrArg vB (andF D)) ?_)))
         exact nl (At.join () z (.cons z (.cons z (.cons z (.cons z .nil)))))
       ·rintro _ _ rfl
        refine (show WL _ _ _ _ _ [(0, vu a0), (5, vu j), (6, vu l), (37, vB ((decide (a0 < 9223372036854775808)) && (decide (a1 < 9223372036854775808))))] _ from ?_)
        refine nl (th ?_)
        rcases cnd h with ⟨E, h⟩ | ⟨E, h⟩
        ·refine WC.condT' z E (sq (rg (wY (ym z) z (wY (ym z) z (wY (Y.lss_u z z) z ?_)))))
         obtain ⟨ap, W, h⟩ := lt1 h
         refine WL.yE (ya z) (congrArg vB W.symm) z (nl (th (rt (At.thenR ?_))))
         obtain rfl := some1 h
         have X : Stp [] (Lg.O0 (fun _ => False)) w n c := (tr_ (su_ m z) (su_ d z))
         exact At.res (.inl z) z (.tmp z .nil) ⟨z, (se_ X z z)⟩
        ·refine WC.condF' z E (sk (th (sq (rg (wY (ym z) z (wY (Y.geq_u (b := 9223372036854775808) z z) z ?_))))))
         obtain ⟨aq, Z, h⟩ := lt1 h
         refine WL.yE (ya z) (congrArg vB Z.symm) z (nl (th (rt ?_)))
         obtain rfl := some1 h
         have aa : Stp [] (Lg.O0 (fun _ => False)) w n c := (tr_ (su_ m z) (su_ d z))
         exact At.res (.inl z) z (.tmp z .nil) ⟨z, (se_ aa z z)⟩
theorem c_ref08_side {A : Nat → Prop} {v0_1 : Value} {a0 : api_Side} {w : World} (hs0_1 : Sl Rep.u w A v0_1 a0.Counts) {r0 : Int} (h : ref08_side a0 = some r0) : Rets Tryz.prog 96 [ag [vi a0.Offset, v0_1]] w (fun v w' => v = vi r0 ∧ Ext w w') := by
 unfold ref08_side at h
 refine Rets.enter Tryz.func96 z z ?_
 have I : Sl Rep.u w (imm (Lg.O0 A)) v0_1 a0.Counts := (Sl.start hs0_1)
 refine (show WC _ _ _ _ [(0, ag [vi a0.Offset, v0_1])] _ from ?_)
 refine sq (rg ?_)
 have S := h
 obtain ⟨am, an, ao, rfl⟩ := I.shape
 have h := S
 refine WL.box (O := (Lg.O0 A)) 11 [vi a0.Offset, (vl am an ao)] z z z ?_
 intro H m c d l
 refine wY (ya z) z (nl (th (sq (rg (wY (yf fo36_1 z) z (wY (yl ty34 z z (l.cell 1 _ z)) z ?_))))))
 have n := I.i d z z
 refine wY (Y.len ty34 z n) z ?_
 obtain ⟨j, J, h⟩ := lt1 h
 refine WL.yE (ya z) (congrArg vi J.symm) z (nl (th (sq (sq (rg (wY (ym z) z (wY (Y.gtr_i z z) z (nl (th ?_)))))))))
 rcases cnd h with ⟨o, h⟩ | ⟨o, h⟩
 ·refine WC.condT' z o (sq (rg (wY (ya z) z (nl (th (rt (At.thenR ?_)))))))
  obtain rfl := some1 h
  have T : Stp [] (Lg.O0 A) w m c := (su_ d z)
  exact At.res (.inl z) z (.tmp z .nil) ⟨z, (se_ T z z)⟩
 ·refine WC.condF' z o (sk (th (sq (sq (rg (wY (ym z) z (wY (Y.eql_i z z) z (nl (th ?_)))))))))
  rcases cnd h with ⟨p, h⟩ | ⟨p, h⟩
  ·refine WC.condT' z p (sq (sq (rg (wY (yf fo36_0 z) z (wY (yl ty3 z z (l.cell 0 _ z)) z (wY (Y.neq_i z z) z (nl (th ?_))))))))
   rcases cnd h with ⟨q, h⟩ | ⟨q, h⟩
   ·refine WC.condT' z q (sq (rg (wY (ya z) z (nl (th (rt (At.thenR (At.thenR ?_))))))))
    obtain rfl := some1 h
    have U : Stp [] (Lg.O0 A) w m c := (su_ d z)
    exact At.res (.inl z) z (.tmp z .nil) ⟨z, (se_ U z z)⟩
   ·refine WC.condF' z q (sk (th (sq (rg (wY (ya z) z (nl (th (rt (At.thenR ?_)))))))))
    obtain rfl := some1 h
    have V : Stp [] (Lg.O0 A) w m c := (su_ d z)
    exact At.res (.inl z) z (.tmp z .nil) ⟨z, (se_ V z z)⟩
  ·refine WC.condF' z p (sk (th (sq (sq (rg (wY (yf fo36_1 z) z (wY (yl ty34 z z (l.cell 1 _ z)) z ?_)))))))
   obtain ⟨ap, W, h⟩ := bnd h
   obtain ⟨aC, au, av, az, X, Z, aa, r, K, ab⟩ := Sl.at2 n W
   obtain rfl := K
   replace r : CellsAt _ _ _ [vu ap] := r
   have L := CAt.imm r ab
   refine wY (Y.indexAddr ty34 ty33 z X z Z aa) z (wY (yl ty33 z z L.at_) z (wY (Y.eql_u (b := 0) z z) z (wY (ym z) z ?_)))
   obtain ⟨aq, h, ac⟩ := bnd h
   refine WL.cut 8 (σ := Bool) (fun x w' => x = aq ∧ c = w') (fun x => [(1, pt H 0), (3, vi j), (27, vB x)]) ?_ ?_
   ·rcases cnd h with ⟨t, h⟩ | ⟨t, h⟩
    ·refine WL.ren 19 z (congrArg vB t) (WL.gS z z z z (WL.gS z z z z (WL.gS z z z z (WL.gS z z z z (WL.gS z z z z (WL.gS z z z z (WL.gS z z z z (wY (Y.pick (b := true) z z) z ?_))))))))
     exact nl (At.join (σ := Bool) true ⟨some1 h, z⟩ (.cons z (.cons z (.cons z .nil))))
    ·refine WL.ren 19 z (congrArg vB t) (ug z z (wY (yf fo36_1 z) z (ug z z (wY (yl ty34 z z (l.cell 1 _ z)) z (ug z z (wY (ym z) z (ug z z (wY (Y.sub_i z z) z (ug z z ?_)))))))))
     obtain ⟨Q, ad, h⟩ := bnd h
     obtain ⟨aD, ax, ay, aA, ae, af, ah, C, M, ai⟩ := Sl.at2 n ad
     obtain rfl := M
     replace C : CellsAt _ _ _ [vu Q] := C
     have P := CAt.imm C ai
     refine wY (Y.indexAddr ty34 ty33 z ae z af ah) z (ug z z (wY (yl ty33 z z P.at_) z (ug z z (wY (Y.eql_u (b := 0) z z) z (wY (Y.pick (b := false) z z) z ?_)))))
     exact nl (At.join (σ := Bool) (decide (Q = 0)) ⟨some1 h, z⟩ (.cons z (.cons z (.cons z .nil))))
   ·rintro ar _ ⟨rfl, rfl⟩
    replace h := ac
    try dsimp only at h
    refine (show WL _ _ _ _ _ [(1, pt H 0), (3, vi j), (27, vB ar)] _ from ?_)
    refine nl (th ?_)
    rcases cnd h with ⟨D, h⟩ | ⟨D, h⟩
    ·refine WC.condT' z D (sq (rg (wY (ya z) z (nl (th (rt (At.thenR ?_)))))))
     obtain rfl := some1 h
     have aj : Stp [] (Lg.O0 A) w m c := (su_ d z)
     exact At.res (.inl z) z (.tmp z .nil) ⟨z, (se_ aj z z)⟩
    ·refine WC.condF' z D (sk (th (sq (sq (rg (wY (yf fo36_0 z) z (wY (yl ty3 z z (l.cell 0 _ z)) z (wY (Y.lss_i z z) z (wY (ym z) z ?_)))))))))
     refine WL.cut 4 (σ := Unit) (fun _ w' => c = w') (fun _ => [(1, pt H 0), (3, vi j), (35, vB ((decide (a0.Offset < (-1073741824))) || (decide (1073741824 < a0.Offset))))]) ?_ ?_
     ·refine WL.part 31 z (fun E => ?_) (fun E => ?_)
      ·refine WL.gS z z z z (WL.gS z z z z (WL.gS z z z z (wY (Y.pick (b := true) z z) z (WL.ren (v' := vB ((decide (a0.Offset < (-1073741824))) || (decide (1073741824 < a0.Offset)))) 35 z (congrArg vB (orT E)) ?_))))
       exact nl (At.join () z (.cons z (.cons z (.cons z .nil))))
      ·refine ug z z (wY (yf fo36_0 z) z (ug z z (wY (yl ty3 z z (l.cell 0 _ z)) z (ug z z (wY (Y.gtr_i z z) z (wY (Y.pick (b := false) z z) z (WL.ren (v' := vB ((decide (a0.Offset < (-1073741824))) || (decide (1073741824 < a0.Offset)))) 35 z (congrArg vB (orF E)) ?_)))))))
       exact nl (At.join () z (.cons z (.cons z (.cons z .nil))))
     ·rintro _ _ rfl
      refine (show WL _ _ _ _ _ [(1, pt H 0), (3, vi j), (35, vB ((decide (a0.Offset < (-1073741824))) || (decide (1073741824 < a0.Offset))))] _ from ?_)
      refine wY (ym z) z ?_
      refine WL.cut 7 (σ := Unit) (fun _ w' => c = w') (fun _ => [(43, vB (((decide (a0.Offset < (-1073741824))) || (decide (1073741824 < a0.Offset))) || (decide (1073741824 < w64 ((w64 (a0.Offset + j)) - 1)))))]) ?_ ?_
      ·refine WL.part 36 z (fun F => ?_) (fun F => ?_)
       ·refine WL.gS z z z z (WL.gS z z z z (WL.gS z z z z (WL.gS z z z z (WL.gS z z z z (WL.gS z z z z (wY (Y.pick (b := true) z z) z (WL.ren (v' := vB (((decide (a0.Offset < (-1073741824))) || (decide (1073741824 < a0.Offset))) || (decide (1073741824 < w64 ((w64 (a0.Offset + j)) - 1))))) 43 z (congrArg vB (orT F)) ?_)))))))
        exact nl (At.join () z (.cons z .nil))
       ·refine ug z z (wY (yf fo36_0 z) z (ug z z (wY (yl ty3 z z (l.cell 0 _ z)) z (ug z z (wY (ym z) z (ug z z (wY (Y.add_i z z) z (ug z z (wY (Y.sub_i z z) z ?_)))))))))
        refine ug z z (wY (Y.gtr_i z z) z (wY (Y.pick (b := false) z z) z (WL.ren (v' := vB (((decide (a0.Offset < (-1073741824))) || (decide (1073741824 < a0.Offset))) || (decide (1073741824 < w64 ((w64 (a0.Offset + j)) - 1))))) 43 z (congrArg vB (orF F)) ?_)))
        exact nl (At.join () z (.cons z .nil))
      ·rintro _ _ rfl
       refine (show WL _ _ _ _ _ [(43, vB (((decide (a0.Offset < (-1073741824))) || (decide (1073741824 < a0.Offset))) || (decide (1073741824 < w64 ((w64 (a0.Offset + j)) - 1)))))] _ from ?_)
       refine nl (th ?_)
       rcases cnd h with ⟨G, h⟩ | ⟨G, h⟩
       ·refine WC.condT' z G (sq (rg (wY (ya z) z (nl (th (rt (At.thenR ?_)))))))
        obtain rfl := some1 h
        have ak : Stp [] (Lg.O0 A) w m c := (su_ d z)
        exact At.res (.inl z) z (.tmp z .nil) ⟨z, (se_ ak z z)⟩
       ·refine WC.condF' z G (sk (th (sq (rg (wY (ya z) z (nl (th (rt ?_))))))))
        obtain rfl := some1 h
        have al : Stp [] (Lg.O0 A) w m c := (su_ d z)
        exact At.res (.inl z) z (.tmp z .nil) ⟨z, (se_ al z z)⟩
theorem c_ref08_sum {A : Nat → Prop} {a0 : UInt64} {a1 : List UInt64} {v1 : Value} {w : World} (hs1 : Sl Rep.u w A v1 a1) {r0 : UInt64} {r1 : Bool} (h : ref08_sum a0 a1 = some (r0, r1)) : Rets Tryz.prog 129 [vu a0, v1] w (fun v w' => v = tp [vu r0, vB r1] ∧ Ext w w') := by
 unfold ref08_sum at h
 refine Rets.enter Tryz.func129 z z ?_
 have c : Sl Rep.u w (imm (Lg.O0 A)) v1 a1 := (Sl.start hs1)
 refine (show WC _ _ _ _ [(0, vu a0), (1, v1)] _ from ?_)
 refine sq (rg (wY (ya (v := vu 0) z) z (wY (ya z) z (nl (th (sq (sq (rg (wY (ya z) z ?_)))))))))
 refine nl (th (WC.block ?_))
 obtain ⟨C, h, o⟩ := flow1 h
 obtain ⟨D, h⟩ := loop_some h
 refine WC.joinB 0 (σ := UInt64) (fun x w' => C = .go x ∧ w = w') (fun x => [(0, vu x)]) ?_ ?_
 ·refine WC.loop (σ := (UInt64 × Int)) (fun x k w' => loopN k (ref08_sum_lp1 a1) (x.1, x.2) = some C ∧ w = w') (fun x => [(0, vu x.1), (1, v1), (6, vi x.2)]) (a0, 0) D (.cons z (.cons z (.cons z .nil))) ⟨h, z⟩ ?_
  rintro ⟨E, W⟩ D _ ⟨h, rfl⟩
  obtain ⟨X, al, rfl, h, d⟩ := rnd1 h
  unfold ref08_sum_lp1 at h
  try dsimp only at h
  refine (show WC _ _ _ _ [(0, vu E), (1, v1), (6, vi W)] _ from ?_)
  refine sq (sq (rg (wY (ym z) z (wY (ym z) z (wY (Y.len ty34 z c) z (wY (Y.lss_i z z) z (nl (th ?_))))))))
  rcases cnd h with ⟨j, h⟩ | ⟨j, h⟩
  ·refine WC.condT' z j (sk (th (sq (WC.block (sq (sq (rg (wY (ym z) z (wY (ym z) z ?_)))))))))
   obtain ⟨Z, F, h⟩ := bnd h
   obtain ⟨am, ae, af, aj, G, H, I, l, p, J⟩ := Sl.at2 c F
   obtain rfl := p
   replace l : CellsAt _ _ _ [vu Z] := l
   have q := CAt.imm l J
   refine wY (Y.indexAddr ty34 ty33 z G z H I) z (wY (yl ty33 z z q.at_) z (wY (ym z) z (wY (Y.sub_u (a := 18446744073709551615) z z) z (wY (Y.gtr_u z z) z (nl (th ?_))))))
   rcases cnd h with ⟨m, h⟩ | ⟨m, h⟩
   ·refine WC.condT' z m (sq (rg (wY (ya (v := vu 0) z) z (wY (ya z) z (nl (th (rt (At.thenR (At.inBlockR ?_)))))))))
    refine At.thenR (At.loopR ?_)
    have h := outr1 h d o
    refine At.joinBR (At.inBlockR (At.thenR ?_))
    obtain ⟨rfl, rfl⟩ := tup2 h
    have K : Stp [] (Lg.O0 A) w (Lg.O0 A) w := (sr_ _ _ _)
    exact At.res (.inl z) z (.tmp z (.tmp z .nil)) ⟨z, (se_ K z z)⟩
   ·refine WC.condF' z m (sk (th (rg (wY (ym z) z (wY (ym z) z (wY (ym z) z ?_))))))
    obtain ⟨aa, L, h⟩ := bnd h
    obtain ⟨an, ah, ai, ak, M, P, Q, n, r, S⟩ := Sl.at2 c L
    obtain rfl := r
    replace n : CellsAt _ _ _ [vu aa] := n
    have t := CAt.imm n S
    refine wY (Y.indexAddr ty34 ty33 z M z P Q) z (wY (yl ty33 z z t.at_) z (wY (Y.add_u z z) z ?_))
    obtain ⟨ab, T, h⟩ := lt1 h
    refine WL.yE (ya z) (congrArg vu T.symm) z (nl (At.inBlock (th (rg (wY (ym z) z (wY (Y.add_i z z) z ?_))))))
    obtain ⟨ac, U, h⟩ := lt1 h
    refine WL.yE (ya z) (congrArg vi U.symm) z (nl ?_)
    exact At.round (ab, ac) X (Nat.lt_succ_self _) ⟨next1 h d, z⟩ (.cons z (.cons z (.cons z .nil)))
  ·refine WC.condF' z j (WC.exit (At.thenX (At.loopX ?_)))
   exact At.hitB (σ := UInt64) E ⟨brk1 h d, z⟩ (.cons z .nil)
 ·rintro ad _ ⟨rfl, rfl⟩
  replace h := flowK_go o
  try dsimp only at h
  refine (show At _ _ _ [(0, vu ad)] _ from ?_)
  refine At.inBlockHit (th (sq (rg (wY (ym z) z (wY (ya z) z (wY (ya z) z (nl (th (rt ?_)))))))))
  obtain ⟨rfl, rfl⟩ := tup2 h
  have V : Stp [] (Lg.O0 A) w (Lg.O0 A) w := (sr_ _ _ _)
  exact At.res (.inl z) z (.tmp z (.tmp z .nil)) ⟨z, (se_ V z z)⟩
theorem c_ref08_Total {A : Nat → Prop} {v0_3 : Value} {v0_5 : Value} {a0 : api_Hist} {w : World} (hs0_3 : Sl Rep.u w A v0_3 a0.Pos.Counts) (hs0_5 : Sl Rep.u w A v0_5 a0.Neg.Counts) {r0 : UInt64} {r1 : Bool} (h : ref08_Total a0 = some (r0, r1)) : Rets Tryz.prog 97 [ag (hl a0 v0_3 v0_5)] w (fun v w' => v = tp [vu r0, vB r1] ∧ Ext w w') := by
 unfold ref08_Total at h
 refine Rets.enter Tryz.func97 z z ?_
 have m : Sl Rep.u w (imm (Lg.O0 A)) v0_3 a0.Pos.Counts := (Sl.start hs0_3)
 have n : Sl Rep.u w (imm (Lg.O0 A)) v0_5 a0.Neg.Counts := (Sl.start hs0_5)
 refine (show WC _ _ _ _ [(0, ag (hl a0 v0_3 v0_5))] _ from ?_)
 refine sq (rg ?_)
 have F := h
 obtain ⟨p, q, r, rfl⟩ := m.shape
 have h := F
 have G := h
 obtain ⟨t, C, D, rfl⟩ := n.shape
 have h := G
 refine WL.box (O := (Lg.O0 A)) 11 (hl a0 (vl p q r) (vl t C D)) z z z ?_
 intro ai W ae c j
 refine wY (ya (v := vu 0) z) z (wY (ya z) z (nl (th (sq (rg (wY (yf fo38_1 z) z (wY (yl ty33 z z (j.cell 1 _ z)) z (wY (yf fo38_2 z) z (wY (yf fo36_1 z) z ?_)))))))))
 refine wY (yl ty34 z z (j.cell 3 _ z)) z ?_
 have H := m.i c z z
 obtain ⟨⟨X, aj⟩, I, h⟩ := bnd h
 refine WL.call (vals := [vu a0.Zero, (vl p q r)]) kok129 z z (c_ref08_sum (A := fun _ => True) (Sl.all H) I) ?_
 rintro af J ⟨rfl, K⟩
 obtain ⟨E, Z, aa, d⟩ := adoptE W (fun k => 1) K
 refine wY (ym z) z (wY (yx z z) z (wY (yx z z) z (wY (ya z) z (wY (ya z) z (nl (th (sq (sq (rg ?_)))))))))
 refine wY (ym z) z (wY (Y.not z) z (nl (th ?_)))
 rcases cnd h with ⟨l, h⟩ | ⟨l, h⟩
 ·refine WC.condT' z l (sq (rg (wY (ya (v := vu 0) z) z (wY (ya z) z (nl (th (rt (At.thenR ?_))))))))
  obtain ⟨rfl, rfl⟩ := tup2 h
  have L : Stp [] (Lg.O0 A) w E J := (tr_ (su_ c z) (su_ d z))
  exact At.res (.inl z) z (.tmp z (.tmp z .nil)) ⟨z, (se_ L z z)⟩
 ·refine WC.condF' z l (sk (th (sq (rg (wY (ym z) z (wY (yf fo38_3 z) z (wY (yf fo36_1 z) z ?_)))))))
  have M := j.st d z
  refine wY (yl ty34 z z (M.cell 5 _ z)) z ?_
  have Q := (n.i c z z).i d z z
  obtain ⟨⟨ak, al⟩, S, h⟩ := bnd h
  refine WL.call (vals := [vu X, (vl t C D)]) kok129 z z (c_ref08_sum (A := fun _ => True) (Sl.all Q) S) ?_
  rintro ah T ⟨rfl, U⟩
  obtain ⟨ab, ac, ad, o⟩ := adoptE E (fun k => 1) U
  refine wY (yx z z) z (wY (yx z z) z (wY (ya z) z (wY (ya z) z (nl (th (rt ?_))))))
  obtain ⟨rfl, rfl⟩ := tup2 h
  have V : Stp [] (Lg.O0 A) w ab T := (tr_ (su_ c z) (tr_ (su_ d z) (su_ o z)))
  exact At.res (.inl z) z (.tmp z (.tmp z .nil)) ⟨z, (se_ V z z)⟩
theorem c_ref08_Check {A : Nat → Prop} {v0_3 : Value} {v0_5 : Value} {a0 : api_Hist} {w : World} (hs0_3 : Sl Rep.u w A v0_3 a0.Pos.Counts) (hs0_5 : Sl Rep.u w A v0_5 a0.Neg.Counts) {r0 : Int} (h : ref08_Check a0 = some r0) : Rets Tryz.prog 56 [ag (hl a0 v0_3 v0_5)] w (fun v w' => v = vi r0 ∧ Ext w w') := by
 unfold ref08_Check at h
 refine Rets.enter Tryz.func56 z z ?_
 have H : Sl Rep.u w (imm (Lg.O0 A)) v0_3 a0.Pos.Counts := (Sl.start hs0_3)
 have I : Sl Rep.u w (imm (Lg.O0 A)) v0_5 a0.Neg.Counts := (Sl.start hs0_5)
 refine (show WC _ _ _ _ [(0, ag (hl a0 v0_3 v0_5))] _ from ?_)
 refine sq (rg ?_)
 have W := h
 obtain ⟨m, n, o, rfl⟩ := H.shape
 have h := W
 have X := h
 obtain ⟨p, q, r, rfl⟩ := I.shape
 have h := X
 refine WL.box (O := (Lg.O0 A)) 11 (hl a0 (vl m n o) (vl p q r)) z z z ?_
 intro Q S J c l
 refine wY (ya z) z (nl (th (sq (sq (rg (wY (yf fo38_0 z) z (wY (yl ty3 z z (l.cell 0 _ z)) z (wY (Y.lss_i z z) z (wY (ym z) z ?_)))))))))
 refine WL.cut 4 (σ := Unit) (fun _ w' => J = w') (fun _ => [(1, pt Q 0), (14, vB ((decide (a0.Scale < (-10))) || (decide (20 < a0.Scale))))]) ?_ ?_
 ·refine WL.part 10 z (fun t => ?_) (fun t => ?_)
  ·refine WL.gS z z z z (WL.gS z z z z (WL.gS z z z z (wY (Y.pick (b := true) z z) z (WL.ren (v' := vB ((decide (a0.Scale < (-10))) || (decide (20 < a0.Scale)))) 14 z (congrArg vB (orT t)) ?_))))
   exact nl (At.join () z (.cons z (.cons z .nil)))
  ·refine ug z z (wY (yf fo38_0 z) z (ug z z (wY (yl ty3 z z (l.cell 0 _ z)) z (ug z z (wY (Y.gtr_i z z) z (wY (Y.pick (b := false) z z) z (WL.ren (v' := vB ((decide (a0.Scale < (-10))) || (decide (20 < a0.Scale)))) 14 z (congrArg vB (orF t)) ?_)))))))
   exact nl (At.join () z (.cons z (.cons z .nil)))
 ·rintro _ _ rfl
  refine (show WL _ _ _ _ _ [(1, pt Q 0), (14, vB ((decide (a0.Scale < (-10))) || (decide (20 < a0.Scale))))] _ from ?_)
  refine nl (th ?_)
  rcases cnd h with ⟨C, h⟩ | ⟨C, h⟩
  ·refine WC.condT' z C (sq (rg (wY (ya z) z (nl (th (rt (At.thenR ?_)))))))
   obtain rfl := some1 h
   have Z : Stp [] (Lg.O0 A) w S J := (su_ c z)
   exact At.res (.inl z) z (.tmp z .nil) ⟨z, (se_ Z z z)⟩
  ·refine WC.condF' z C (sk (th (sq (sq (rg (wY (yf fo38_2 z) z (wY (yL ty36 z z (l.cells 2 [vi a0.Pos.Offset, (vl m n o)] z) z) z ?_)))))))
   have K := H.i c z z
   obtain ⟨aF, aa, h⟩ := bnd h
   refine WL.call (vals := [ag [vi a0.Pos.Offset, (vl m n o)]]) kok96 z z (c_ref08_side (A := fun _ => True) (a0 := a0.Pos) (Sl.all K) aa) ?_
   rintro aC ab ⟨rfl, ac⟩
   obtain ⟨T, au, av, d⟩ := adoptE S (fun k => 1) ac
   refine wY (ya z) z (nl (th (sq (rg (wY (ym z) z (wY (Y.neq_i z z) z (nl (th ?_))))))))
   rcases cnd h with ⟨D, h⟩ | ⟨D, h⟩
   ·refine WC.condT' z D (sq (rg (wY (ym z) z (wY (ya z) z (nl (th (rt (At.thenR ?_))))))))
    obtain rfl := some1 h
    have ad : Stp [] (Lg.O0 A) w T ab := (tr_ (su_ c z) (su_ d z))
    exact At.res (.inl z) z (.tmp z .nil) ⟨z, (se_ ad z z)⟩
   ·refine WC.condF' z D (sk (th (sq (sq (rg (wY (yf fo38_3 z) z ?_))))))
    have L := l.st d z
    refine wY (yL ty36 z z (L.cells 4 [vi a0.Neg.Offset, (vl p q r)] z) z) z ?_
    have M := (I.i c z z).i d z z
    obtain ⟨aG, af, h⟩ := bnd h
    refine WL.call (vals := [ag [vi a0.Neg.Offset, (vl p q r)]]) kok96 z z (c_ref08_side (A := fun _ => True) (a0 := a0.Neg) (Sl.all M) af) ?_
    rintro aD ah ⟨rfl, ai⟩
    obtain ⟨U, ax, ay, j⟩ := adoptE T (fun k => 1) ai
    refine wY (ya z) z (nl (th (sq (rg (wY (ym z) z (wY (Y.neq_i z z) z (nl (th ?_))))))))
    rcases cnd h with ⟨E, h⟩ | ⟨E, h⟩
    ·refine WC.condT' z E (sq (rg (wY (ym z) z (wY (ya z) z (nl (th (rt (At.thenR ?_))))))))
     obtain rfl := some1 h
     have aj : Stp [] (Lg.O0 A) w U ah := (tr_ (su_ c z) (tr_ (su_ d z) (su_ j z)))
     exact At.res (.inl z) z (.tmp z .nil) ⟨z, (se_ aj z z)⟩
    ·refine WC.condF' z E (sk (th (sq (sq (rg ?_)))))
     have ak := L.st j z
     refine wY (yL ty38 z z (ak.cells 0 (hl a0 (vl m n o) (vl p q r)) z) z) z ?_
     have am := (K.i d z z).i j z z
     have an := M.i j z z
     obtain ⟨⟨aH, aI⟩, ao, h⟩ := bnd h
     refine WL.call (vals := [ag (hl a0 (vl m n o) (vl p q r))]) kok97 z z (c_ref08_Total (A := fun _ => True) (a0 := a0) (Sl.all am) (Sl.all an) ao) ?_
     rintro aE P ⟨rfl, ap⟩
     obtain ⟨V, az, aA, G⟩ := adoptE U (fun k => 1) ap
     refine wY (ym z) z (wY (yx z z) z (wY (yx z z) z (wY (ya z) z (wY (ya z) z (nl (th (sq (rg (wY (ym z) z ?_)))))))))
     refine wY (Y.not z) z (nl (th ?_))
     rcases cnd h with ⟨F, h⟩ | ⟨F, h⟩
     ·refine WC.condT' z F (sq (rg (wY (ya z) z (nl (th (rt (At.thenR ?_)))))))
      obtain rfl := some1 h
      have aq : Stp [] (Lg.O0 A) w V P := (tr_ (su_ c z) (tr_ (su_ d z) (tr_ (su_ j z) (su_ G z))))
      exact At.res (.inl z) z (.tmp z .nil) ⟨z, (se_ aq z z)⟩
     ·refine WC.condF' z F (sk (th (sq (rg (wY (ya z) z (nl (th (rt ?_))))))))
      obtain rfl := some1 h
      have ar : Stp [] (Lg.O0 A) w V P := (tr_ (su_ c z) (tr_ (su_ d z) (tr_ (su_ j z) (su_ G z))))
      exact At.res (.inl z) z (.tmp z .nil) ⟨z, (se_ ar z z)⟩
end Go.Lg
