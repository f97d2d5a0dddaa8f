/- The walks of RollupTwice and of what it calls, printed by gen.py. -/
import Derived.Test.YtihlealbhlgikaaRtLgRtWRollupTwicex1
set_option linter.unusedVariables false
namespace Go.Lg
open Go Go.Proofs
set_option maxRecDepth 100000
set_option maxHeartbeats 4000000
theorem c_rollup_join {A : Nat → Prop} {v0_1 : Value} {v0_13 : Value} {v0_15 : Value} {a0 : api_Point} {v1_1 : Value} {v1_13 : Value} {v1_15 : Value} {a1 : api_Point} {w : World} (hs0_1 : Sl rep_api_Pair w A v0_1 a0.Attrs) (hs0_13 : Sl Rep.u w A v0_13 a0.Hist.Pos.Counts) (hs0_15 : Sl Rep.u w A v0_15 a0.Hist.Neg.Counts) (hs1_1 : Sl rep_api_Pair w A v1_1 a1.Attrs) (hs1_13 : Sl Rep.u w A v1_13 a1.Hist.Pos.Counts) (hs1_15 : Sl Rep.u w A v1_15 a1.Hist.Neg.Counts) {r0 : api_Point} {r1 : Int} (h : rollup_join a0 a1 = some (r0, r1)) : Rets Try.prog 22 [ag (cp a0 v0_1 v0_13 v0_15), ag (cp a1 v1_1 v1_13 v1_15)] w (fun v w' => ∃ (bh : Value) (aX : Value) (aY : Value), v = Value.tuple (List.toArray [ag (cp r0 bh aX aY), vi r1]) ∧ Ext w w' ∧ Sl rep_api_Pair w' (fun k => A k ∨ w.heap.size ≤ k) bh r0.Attrs ∧ Sl Rep.u w' (fun k => A k ∨ w.heap.size ≤ k) aX r0.Hist.Pos.Counts ∧ Sl Rep.u w' (fun k => A k ∨ w.heap.size ≤ k) aY r0.Hist.Neg.Counts) := by
 unfold rollup_join at h
 refine Rets.enter Try.func22 z z ?_
 have ft : Sl rep_api_Pair w (imm (Lg.O0 A)) v0_1 a0.Attrs := (Sl.start hs0_1)
 have bi : Sl Rep.u w (imm (Lg.O0 A)) v0_13 a0.Hist.Pos.Counts := (Sl.start hs0_13)
 have bj : Sl Rep.u w (imm (Lg.O0 A)) v0_15 a0.Hist.Neg.Counts := (Sl.start hs0_15)
 have fu : Sl rep_api_Pair w (imm (Lg.O0 A)) v1_1 a1.Attrs := (Sl.start hs1_1)
 have fv : Sl Rep.u w (imm (Lg.O0 A)) v1_13 a1.Hist.Pos.Counts := (Sl.start hs1_13)
 have fw : Sl Rep.u w (imm (Lg.O0 A)) v1_15 a1.Hist.Neg.Counts := (Sl.start hs1_15)
 refine (show WC _ _ _ _ [(0, ag (cp a0 v0_1 v0_13 v0_15)), (1, ag (cp a1 v1_1 v1_13 v1_15))] _ from ?_)
 refine sq (rg ?_)
 have fx := h
 obtain ⟨f1, f2, f3, rfl⟩ := ft.shape
 have h := fx
 have fy := h
 obtain ⟨aZ, a2, a3, rfl⟩ := bi.shape
 have h := fy
 have fz := h
 obtain ⟨a4, a5, a6, rfl⟩ := bj.shape
 have h := fz
 refine WL.box (O := (Lg.O0 A)) 11 (cp a0 (vl f1 f2 f3) (vl aZ a2 a3) (vl a4 a5 a6)) z z z ?_
 intro fo f4 gB U an
 have bk := fu.i U z z
 have fA := h
 obtain ⟨aG, aH, aI, rfl⟩ := bk.shape
 have h := fA
 have bl := fv.i U z z
 have fB := h
 obtain ⟨aJ, aK, aL, rfl⟩ := bl.shape
 have h := fB
 have bm := fw.i U z z
 have fC := h
 obtain ⟨aM, aN, aO, rfl⟩ := bm.shape
 have h := fC
 refine WL.box (O := f4) 12 (cp a1 (vl aG aH aI) (vl aJ aK aL) (vl aM aN aO)) z z z ?_
 intro fp f5 gC F fD
 refine WL.alloc (O := f5) 13 [vs [], sn, vi 0, vi 0, vB false, vi 0, vi 0, vi 0, vu 0, vu 0, vi 0, vu 0, vi 0, sn, vi 0, sn, vi 0] ty33 z z ?_
 intro fq f6 gE E bn
 refine wY (ya z) z (nl (th (sq (rg ?_))))
 have ao := fD.st E z
 refine wY (yL ty33 z z (ao.cells 0 (cp a1 (vl aG aH aI) (vl aJ aK aL) (vl aM aN aO)) z) z) z ?_
 have bo := (bk.i F z z).i E z z
 have bp := (bl.i F z z).i E z z
 have bq := (bm.i F z z).i E z z
 obtain ⟨c, fI, h⟩ := bnd h
 refine WL.call (vals := [ag (cp a1 (vl aG aH aI) (vl aJ aK aL) (vl aM aN aO))]) kok21 z z (c_point_Clone (A := fun _ => True) (a0 := a1) (Sl.all bo) (Sl.all bp) (Sl.all bq) fI) ?_
 rintro gG aR ⟨a7, br, fs, rfl, fJ, f7, f8, f9, ga, gb, gc⟩
 obtain ⟨a8, gd, ak, q⟩ := adoptE f6 (fun k => if ob a7 = some k then 14 else if ob br = some k then 15 else if ob fs = some k then 16 else 1) fJ
 have fK : OwnSl 14 rep_api_Pair 65 a8 aR a7 c.Attrs := RowF.adopt 14 flat_api_Pair f7 ak (fun k hk => if_pos hk)
 have fL : OwnSl 15 Rep.u 26 a8 aR br c.Hist.Pos.Counts := RowF.adopt 15 Flat.u f8 ak (fun k hk => (if_neg (fun (e : ob a7 = some k) => ga k e hk)).trans (if_pos hk))
 have fN : OwnSl 16 Rep.u 26 a8 aR fs c.Hist.Neg.Counts := RowF.adopt 16 Flat.u f9 ak (fun k hk => (if_neg (fun (e : ob a7 = some k) => gb k e hk)).trans ((if_neg (fun (e : ob br = some k) => gc k e hk)).trans (if_pos hk)))
 refine WL.alloc (O := a8) 17 [vs [], sn, vi 0, vi 0, vB false, vi 0, vi 0, vi 0, vu 0, vu 0, vi 0, vu 0, vi 0, sn, vi 0, sn, vi 0] ty33 z z ?_
 intro aP a9 gH o fO
 have aS := fK.st o z z z
 have fP := h
 obtain ⟨M, P, Q, rfl⟩ := aS.shape
 have h := fP
 have bs := fL.st o z z z
 have bD := h
 obtain ⟨S, T, G, rfl⟩ := bs.shape
 have h := bD
 have ba := fN.st o z z z
 have bE := h
 obtain ⟨H, I, J, rfl⟩ := ba.shape
 have h := bE
 refine WL.store (v := ag (cp c (vl M P Q) (vl S T G) (vl H I J))) (cells' := (cp c (vl M P Q) (vl S T G) (vl H I J))) ty33 z z fO z (le_ z) z z ?_
 intro ge j bF
 refine nl (th (sq (WC.drawH [17] [0, 1, 2, 3, 4, 5, 6, 7, 8, 9] a9 11 fmix z (by kernel_rfl) ?_)))
 intro gf d
 refine WD.y 0 z (by kernel_rfl) (fun _ _ _ => yf fo33_5 z) z (WD.y 1 z (by kernel_rfl) (fun gg gI bt => have bG := an.st F z; have bH := bG.st E z; have bI := bH.st q z; have bJ := bI.st o z; have bK := bJ.st j z; have bL := bK.st d z; have bM := bL.st bt z; yl ty3 z z (bM.cell 5 _ z)) z (WD.y 2 z (by kernel_rfl) (fun _ _ _ => yf fo33_11 z) z (WD.y 3 z (by kernel_rfl) (fun gh gJ bu => have bO := an.st F z; have bP := bO.st E z; have bQ := bP.st q z; have bR := bQ.st o z; have bS := bR.st j z; have bT := bS.st d z; have bU := bT.st bu z; yl ty3 z z (bU.cell 16 _ z)) z (WD.y 4 z (by kernel_rfl) (fun _ _ _ => yf fo33_11 z) z (WD.y 5 z (by kernel_rfl) (fun gi gK bw => have bW := ao.st q z; have bX := bW.st o z; have bY := bX.st j z; have bZ := bY.st d z; have b0 := bZ.st bw z; yl ty3 z z (b0.cell 16 _ z)) z (WD.y 6 z (by kernel_rfl) (fun _ _ _ => Y.or_i z z) z (WD.y 7 z (by kernel_rfl) (fun _ _ _ => yf fo33_5 z) z (WD.heavy 8 z (by kernel_rfl) ?_))))))))
 have b1 := bF.st d z
 refine WL.store (v := vi a0.Start) (cells' := [vs c.Name, (vl M P Q), vi c.Kind, vi c.Temp, vB c.Mono, vi a0.Start, vi c.Time, vi c.Int_, vu c.Re, vu c.Im, vi c.Hist.Scale, vu c.Hist.Zero, vi c.Hist.Pos.Offset, (vl S T G), vi c.Hist.Neg.Offset, (vl H I J), vi c.Flags]) ty3 z z b1 z (le_ z) z z ?_
 intro gj l b2
 refine nl (At.dq (su_ l z) (WD.y 9 z (by kernel_rfl) (fun _ _ _ => yf fo33_11 z) z (WD.phase [17] [0, 1, 2, 3, 4, 5, 6, 7, 8, 9, 10] (by kernel_rfl) (by kernel_rfl) (WD.heavy 10 z (by kernel_rfl) ?_))))
 obtain ⟨K, b3, h⟩ := lt1 h
 refine WL.ren 16 z (congrArg vi b3.symm) (WL.store (v := vi K) (cells' := [vs c.Name, (vl M P Q), vi c.Kind, vi c.Temp, vB c.Mono, vi a0.Start, vi c.Time, vi c.Int_, vu c.Re, vu c.Im, vi c.Hist.Scale, vu c.Hist.Zero, vi c.Hist.Pos.Offset, (vl S T G), vi c.Hist.Neg.Offset, (vl H I J), vi K]) ty3 z z b2 z (le_ z) z z ?_)
 intro b4 m bb
 refine nl (At.dq (su_ m z) (WD.done_ (by kernel_rfl) (th (sq ?_))))
 obtain ⟨fQ, h, b5⟩ := bnd h
 refine WC.join (σ := (Int × Own)) (fun x w' => x.1 = fQ ∧ Stp [17] a9 b4 x.2 w' ∧ Blk 17 x.2 w' aP 33 [vs c.Name, (vl M P Q), vi c.Kind, vi c.Temp, vB c.Mono, vi x.1, vi c.Time, vi c.Int_, vu c.Re, vu c.Im, vi c.Hist.Scale, vu c.Hist.Zero, vi c.Hist.Pos.Offset, (vl S T G), vi c.Hist.Neg.Offset, (vl H I J), vi K]) (fun x => [(2, pt fo 0), (3, pt fp 0), (4, pt fq 0), (6, pt aP 0)]) ?_ ?_
 ·refine sq (rg (wY (yf fo33_2 z) z ?_))
  have cd := (((((((an.st F z).st E z).st q z).st o z).st j z).st d z).st l z).st m z
  refine wY (yl ty3 z z (cd.cell 2 _ z)) z (wY (Y.eql_i z z) z (nl (th ?_)))
  rcases cnd h with ⟨ap, h⟩ | ⟨ap, h⟩
  ·refine WC.condT' z ap (rg (wY (yf fo33_5 z) z ?_))
   have cj := (((((ao.st q z).st o z).st j z).st d z).st l z).st m z
   refine wY (yl ty3 z z (cj.cell 5 _ z)) z (wY (yf fo33_5 z) z (WL.store (v := vi a1.Start) (cells' := [vs c.Name, (vl M P Q), vi c.Kind, vi c.Temp, vB c.Mono, vi a1.Start, vi c.Time, vi c.Int_, vu c.Re, vu c.Im, vi c.Hist.Scale, vu c.Hist.Zero, vi c.Hist.Pos.Offset, (vl S T G), vi c.Hist.Neg.Offset, (vl H I J), vi K]) ty3 z z bb z (le_ z) z z ?_))
   intro gk bx ck
   refine nl ?_
   exact At.join (σ := (Int × Own)) (a1.Start, a9) ⟨some1 h, (su_ bx z), ck⟩ (.cons z (.cons z (.cons z (.cons z .nil))))
  ·refine WC.condF' z ap (sk ?_)
   exact At.join (σ := (Int × Own)) (a0.Start, a9) ⟨some1 h, (sr_ _ _ _), bb⟩ (.cons z (.cons z (.cons z (.cons z .nil))))
 ·rintro ⟨V, fR⟩ gl ⟨rfl, n, aq⟩
  replace h := b5
  try dsimp only at h n aq
  refine (show At _ _ _ [(2, pt fo 0), (3, pt fp 0), (4, pt fq 0), (6, pt aP 0)] _ from ?_)
  refine th (sq (sq (rg (wY (yf fo33_3 z) z ?_))))
  have Z := ((((((((an.st F z).st E z).st q z).st o z).st j z).st d z).st l z).st m z).st n z
  refine wY (yl ty3 z z (Z.cell 3 _ z)) z (wY (Y.neq_i z z) z (nl (th ?_)))
  rcases cnd h with ⟨ar, h⟩ | ⟨ar, h⟩
  ·refine WC.condT' z ar (sq (rg (wY (yL ty33 z z (aq.cells 0 [vs c.Name, (vl M P Q), vi c.Kind, vi c.Temp, vB c.Mono, vi V, vi c.Time, vi c.Int_, vu c.Re, vu c.Im, vi c.Hist.Scale, vu c.Hist.Zero, vi c.Hist.Pos.Offset, (vl S T G), vi c.Hist.Neg.Offset, (vl H I J), vi K] z) z) z ?_)))
   have cA := ((((((bn.st q z).st o z).st j z).st d z).st l z).st m z).st n z
   refine WL.store (v := ag [vs c.Name, (vl M P Q), vi c.Kind, vi c.Temp, vB c.Mono, vi V, vi c.Time, vi c.Int_, vu c.Re, vu c.Im, vi c.Hist.Scale, vu c.Hist.Zero, vi c.Hist.Pos.Offset, (vl S T G), vi c.Hist.Neg.Offset, (vl H I J), vi K]) (cells' := [vs c.Name, (vl M P Q), vi c.Kind, vi c.Temp, vB c.Mono, vi V, vi c.Time, vi c.Int_, vu c.Re, vu c.Im, vi c.Hist.Scale, vu c.Hist.Zero, vi c.Hist.Pos.Offset, (vl S T G), vi c.Hist.Neg.Offset, (vl H I J), vi K]) ty33 z z cA z (le_ z) z z ?_
   intro cC aa cD
   refine wY (ya z) z (nl (th (rt (At.thenR ?_))))
   obtain ⟨rfl, rfl⟩ := tup2 h
   have cJ := (((((aS.st j z z z).st d z z z).st l z z z).st m z z z).st n z z z).st aa z z z
   obtain ⟨gL, ab, cK⟩ := OwnSl.giveF rfl flat_api_Pair cJ
   have cR := ((((((bs.st j z z z).st d z z z).st l z z z).st m z z z).st n z z z).st aa z z z).st ab z z z
   obtain ⟨gM, ac, cS⟩ := OwnSl.giveF rfl Flat.u cR
   have c0 := (((((((ba.st j z z z).st d z z z).st l z z z).st m z z z).st n z z z).st aa z z z).st ab z z z).st ac z z z
   obtain ⟨fT, ad, c1⟩ := OwnSl.giveF rfl Flat.u c0
   have ah : Stp [13, 14, 15, 16, 17] (Lg.O0 A) w fT cC := (tr_ (su_ U z) (tr_ (su_ F z) (tr_ (su_ E z) (tr_ (su_ q z) (tr_ (su_ o z) (tr_ (su_ j z) (tr_ (su_ d z) (tr_ (su_ l z) (tr_ (su_ m z) (tr_ (su_ n z) (tr_ (su_ aa z) (tr_ (su_ ab z) (tr_ (su_ ac z) (su_ ad z))))))))))))))
   have c3 := (cK.f ac z).f ad z
   have c4 := cS.f ad z
   have c7 := ((cD.st ab z).st ac z).st ad z
   exact At.res (.inl z) z (.cell z (c7.runAg 0 [vs c.Name, (vl M P Q), vi c.Kind, vi c.Temp, vB c.Mono, vi V, vi c.Time, vi c.Int_, vu c.Re, vu c.Im, vi c.Hist.Scale, vu c.Hist.Zero, vi c.Hist.Pos.Offset, (vl S T G), vi c.Hist.Neg.Offset, (vl H I J), vi K] ty33 z z z) (.tmp z .nil)) ⟨(vl M P Q), (vl S T G), (vl H I J), z, (se_ ah z z), (Sl.outI (Sl.mono c3 frs_imm) ah low0 O0_A), (Sl.outI (Sl.mono c4 frs_imm) ah low0 O0_A), (Sl.outI (Sl.mono c1 frs_imm) ah low0 O0_A)⟩
  ·refine WC.condF' z ar (sk (th (sq (WC.drawH [17] [0, 1, 2, 3, 4, 5, 6, 7, 8, 9, 10, 11, 12, 13, 14] fR 16 fmix z (by kernel_rfl) ?_))))
   intro gm p
   refine WD.y 0 z (by kernel_rfl) (fun _ _ _ => yf fo33_7 z) z (WD.y 1 z (by kernel_rfl) (fun gn gO bz => have c8 := Z.st p z; have c9 := c8.st bz z; yl ty3 z z (c9.cell 7 _ z)) z (WD.y 2 z (by kernel_rfl) (fun _ _ _ => yf fo33_8 z) z (WD.y 3 z (by kernel_rfl) (fun gp gP bA => have da := Z.st p z; have db := da.st bA z; yl ty26 z z (db.cell 8 _ z)) z (WD.y 4 z (by kernel_rfl) (fun _ _ _ => yf fo33_9 z) z (WD.y 5 z (by kernel_rfl) (fun gq gQ bB => have dc := Z.st p z; have dd := dc.st bB z; yl ty26 z z (dd.cell 9 _ z)) z (WD.y 6 z (by kernel_rfl) (fun _ _ _ => yf fo33_10 z) z (WD.y 7 z (by kernel_rfl) (fun gr gR bC => have de := Z.st p z; have df := de.st bC z; yL ty31 z z (df.cells 10 (hl a0.Hist (vl aZ a2 a3) (vl a4 a5 a6)) z) z) z (WD.y 8 z (by kernel_rfl) (fun _ _ _ => yf fo33_7 z) z (WD.heavy 9 z (by kernel_rfl) ?_)))))))))
   have dg := aq.st p z
   refine WL.store (v := vi a0.Int_) (cells' := [vs c.Name, (vl M P Q), vi c.Kind, vi c.Temp, vB c.Mono, vi V, vi c.Time, vi a0.Int_, vu c.Re, vu c.Im, vi c.Hist.Scale, vu c.Hist.Zero, vi c.Hist.Pos.Offset, (vl S T G), vi c.Hist.Neg.Offset, (vl H I J), vi K]) ty3 z z dg z (le_ z) z z ?_
   intro gs r dh
   refine nl (At.dq (su_ r z) (WD.y 10 z (by kernel_rfl) (fun _ _ _ => yf fo33_8 z) z (WD.heavy 11 z (by kernel_rfl) (WL.store (v := vu a0.Re) (cells' := [vs c.Name, (vl M P Q), vi c.Kind, vi c.Temp, vB c.Mono, vi V, vi c.Time, vi a0.Int_, vu a0.Re, vu c.Im, vi c.Hist.Scale, vu c.Hist.Zero, vi c.Hist.Pos.Offset, (vl S T G), vi c.Hist.Neg.Offset, (vl H I J), vi K]) ty26 z z dh z (le_ z) z z ?_))))
   intro gt t di
   refine nl (At.dq (su_ t z) (WD.y 12 z (by kernel_rfl) (fun _ _ _ => yf fo33_9 z) z (WD.heavy 13 z (by kernel_rfl) (WL.store (v := vu a0.Im) (cells' := [vs c.Name, (vl M P Q), vi c.Kind, vi c.Temp, vB c.Mono, vi V, vi c.Time, vi a0.Int_, vu a0.Re, vu a0.Im, vi c.Hist.Scale, vu c.Hist.Zero, vi c.Hist.Pos.Offset, (vl S T G), vi c.Hist.Neg.Offset, (vl H I J), vi K]) ty26 z z di z (le_ z) z z ?_))))
   intro gu C dj
   refine nl (At.dq (su_ C z) (WD.y 14 z (by kernel_rfl) (fun _ _ _ => yf fo33_10 z) z (WD.phase [17] [0, 1, 2, 3, 4, 5, 6, 7, 8, 9, 10, 11, 12, 13, 14, 15] (by kernel_rfl) (by kernel_rfl) (WD.heavy 15 z (by kernel_rfl) (WL.store (v := ag (hl a0.Hist (vl aZ a2 a3) (vl a4 a5 a6))) (cells' := [vs c.Name, (vl M P Q), vi c.Kind, vi c.Temp, vB c.Mono, vi V, vi c.Time, vi a0.Int_, vu a0.Re, vu a0.Im, vi a0.Hist.Scale, vu a0.Hist.Zero, vi a0.Hist.Pos.Offset, (vl aZ a2 a3), vi a0.Hist.Neg.Offset, (vl a4 a5 a6), vi K]) ty31 z z dj z (le_ z) z z ?_)))))
   intro gw D bc
   refine nl (At.dq (su_ D z) (WD.done_ (by kernel_rfl) (th (sq (rg ?_)))))
   have dy := (((((((((((ao.st q z).st o z).st j z).st d z).st l z).st m z).st n z).st p z).st r z).st t z).st C z).st D z
   refine wY (yL ty33 z z (dy.cells 0 (cp a1 (vl aG aH aI) (vl aJ aK aL) (vl aM aN aO)) z) z) z ?_
   have dI := (((((((((aS.st j z z z).st d z z z).st l z z z).st m z z z).st n z z z).st p z z z).st r z z z).st t z z z).st C z z z).st D z z z
   obtain ⟨al, L, dJ⟩ := OwnSl.giveF rfl flat_api_Pair dI
   have dZ := (((((((((((((((bi.i U z z).i F z z).i E z z).i q z z).i o z z).i j z z).i d z z).i l z z).i m z z).i n z z).i p z z).i r z z).i t z z).i C z z).i D z z).i L z z
   have ef := (((((((((((((((bj.i U z z).i F z z).i E z z).i q z z).i o z z).i j z z).i d z z).i l z z).i m z z).i n z z).i p z z).i r z z).i t z z).i C z z).i D z z).i L z z
   have eu := ((((((((((((bo.i q z z).i o z z).i j z z).i d z z).i l z z).i m z z).i n z z).i p z z).i r z z).i t z z).i C z z).i D z z).i L z z
   have eI := ((((((((((((bp.i q z z).i o z z).i j z z).i d z z).i l z z).i m z z).i n z z).i p z z).i r z z).i t z z).i C z z).i D z z).i L z z
   have eV := ((((((((((((bq.i q z z).i o z z).i j z z).i d z z).i l z z).i m z z).i n z z).i p z z).i r z z).i t z z).i C z z).i D z z).i L z z
   have au := bc.st L z
   obtain ⟨⟨gU, W⟩, eW, h⟩ := bnd h
   refine WL.call (vals := [pt aP 0, ag (cp a1 (vl aG aH aI) (vl aJ aK aL) (vl aM aN aO))]) kok47 z z (c_rollup_values (A := imm al) (a0 := (api_Point.mk c.Name c.Attrs c.Kind c.Temp c.Mono V c.Time a0.Int_ a0.Re a0.Im a0.Hist K)) (a1 := a1) (Sl.mono dJ frs_imm) dZ ef bc.blk eu eI eV (fun k hk => imm_ne au.lab z k hk) eW) ?_
   rintro gz ai ⟨aT, aU, aW, rfl, eX, fU, fV, fY, f0⟩
   obtain ⟨am, X, af, aQ⟩ := adopt al (fun k => 1) [17] eX (memB au.lab rfl)
   have bd : Sl rep_api_Pair ai (imm am) aT W.Attrs := Sl.adoptI (O := al) fU (fun _ hk => hk) (fun _ _ => Nat.le_refl _) X af
   have bf : Sl Rep.u ai (imm am) aU W.Hist.Pos.Counts := Sl.adoptI (O := al) fV (fun _ hk => hk) (fun _ _ => Nat.le_refl _) X af
   have bg : Sl Rep.u ai (imm am) aW W.Hist.Neg.Counts := Sl.adoptI (O := al) fY (fun _ hk => hk) (fun _ _ => Nat.le_refl _) X af
   have eY : Blk 17 am ai aP 33 (cp W aT aU aW) := Blk.adopt au X f0
   refine wY (ya z) z (nl (th (sq (rg (wY (yL ty33 z z (eY.cells 0 (cp W aT aU aW) z) z) z (wY (ym z) z ?_))))))
   have eZ := h
   obtain ⟨av, ax, ay, rfl⟩ := bd.shape
   have h := eZ
   have e0 := h
   obtain ⟨az, aA, aC, rfl⟩ := bf.shape
   have h := e0
   have e1 := h
   obtain ⟨aD, aE, aF, rfl⟩ := bg.shape
   have h := e1
   have fi := (((((((((((((bn.st q z).st o z).st j z).st d z).st l z).st m z).st n z).st p z).st r z).st t z).st C z).st D z).st L z).st aQ z
   refine WL.store (v := ag (cp W (vl av ax ay) (vl az aA aC) (vl aD aE aF))) (cells' := (cp W (vl av ax ay) (vl az aA aC) (vl aD aE aF))) ty33 z z fi z (le_ z) z z ?_
   intro fj ae fk
   refine wY (ya z) z (nl (th (rt ?_)))
   obtain ⟨rfl, rfl⟩ := tup2 h
   have aj : Stp [13, 14, 17] (Lg.O0 A) w am fj := (tr_ (su_ U z) (tr_ (su_ F z) (tr_ (su_ E z) (tr_ (su_ q z) (tr_ (su_ o z) (tr_ (su_ j z) (tr_ (su_ d z) (tr_ (su_ l z) (tr_ (su_ m z) (tr_ (su_ n z) (tr_ (su_ p z) (tr_ (su_ r z) (tr_ (su_ t z) (tr_ (su_ C z) (tr_ (su_ D z) (tr_ (su_ L z) (tr_ (su_ aQ z) (su_ ae z))))))))))))))))))
   have fl := bd.i ae z z
   have fm := bf.i ae z z
   have fn := bg.i ae z z
   exact At.res (.inl z) z (.cell z (fk.runAg 0 (cp W (vl av ax ay) (vl az aA aC) (vl aD aE aF)) ty33 z z z) (.tmp z .nil)) ⟨(vl av ax ay), (vl az aA aC), (vl aD aE aF), z, (se_ aj z z), (Sl.outI fl aj low0 O0_A), (Sl.outI fm aj low0 O0_A), (Sl.outI fn aj low0 O0_A)⟩
theorem c_rollup_Roll {A : Nat → Prop} {a0 : List api_Point} {v0 : Value} {a1 : Int} {w : World} (hs0 : Sl rep_api_Point w A v0 a0) {r0 : List api_Point} {r1 : Int} {r2 : Int} (h : rollup_Roll a0 a1 = some (r0, r1, r2)) : Rets Try.prog 8 [v0, vi a1] w (fun v w' => ∃ (u0 : Value), v = tp [u0, vi r1, vi r2] ∧ Ext w w' ∧ Sl rep_api_Point w' (fun k => A k ∨ w.heap.size ≤ k) u0 r0) := by
 unfold rollup_Roll at h
 refine Rets.enter Try.func8 z z ?_
 have bt : Sl rep_api_Point w (imm (Lg.O0 A)) v0 a0 := (Sl.start hs0)
 refine (show WC _ _ _ _ [(0, v0), (1, vi a1)] _ from ?_)
 refine sq (rg (wY (ya z) z (wY (ya z) z (wY (ya z) z (nl (th (sq (sq (rg ?_)))))))))
 refine wY (ym z) z (wY (Y.lss_i z z) z (nl (th ?_)))
 rcases cnd h with ⟨a2, h⟩ | ⟨a2, h⟩
 ·refine WC.condT' z a2 (sq (rg (wY (ya z) z (wY (ya z) z (wY (ya z) z (nl (th (rt (At.thenR ?_)))))))))
  obtain ⟨rfl, rfl, rfl⟩ := tup3 h
  have es : Stp [] (Lg.O0 A) w (Lg.O0 A) w := (sr_ _ _ _)
  exact At.res (.inl z) z (.tmp z (.tmp z (.tmp z .nil))) ⟨sn, z, (se_ es z z), (Or.inl ⟨z, z⟩)⟩
 ·refine WC.condF' z a2 (sk (th (sq (rg (wY (ya z) z (nl (th (sq (sq ?_)))))))))
  refine rg (wY (ym z) z (wY (Y.len ty22 z bt) z (wY (ym z) z (nl (th (WC.block ?_))))))
  obtain ⟨em, h, a3⟩ := flow1 h
  obtain ⟨en, h⟩ := loop_some h
  refine WC.joinB 0 (σ := (List api_Point × Own × Value)) (fun x w' => em = .go x.1 ∧ Stp [11, 12, 13, 14, 16, 1001, 1002] (Lg.O0 A) w x.2.1 w' ∧ OwnSl 1003 rep_api_Point 33 x.2.1 w' x.2.2 x.1) (fun x => [(7, x.2.2)]) ?_ ?_
  ·refine WC.loop (σ := (List api_Point × Int × Own × Value)) (fun x k w' => loopN k (rollup_Roll_lp1 a0 a1) (x.1, x.2.1) = some em ∧ Stp [11, 12, 13, 14, 16, 1001, 1002] (Lg.O0 A) w x.2.2.1 w' ∧ OwnSl 1002 rep_api_Point 33 x.2.2.1 w' x.2.2.2 x.1) (fun x => [(0, v0), (1, vi a1), (7, x.2.2.2), (14, v0), (15, vi (a0.length : Int)), (16, vi x.2.1)]) ([], 0, (Lg.O0 A), sn) en (.cons z (.cons z (.cons z (.cons z (.cons z (.cons z .nil)))))) ⟨h, (sr_ _ _ _), (OwnSl.nil 1002 rep_api_Point 33)⟩ ?_
   rintro ⟨b9, J, eo, ae⟩ en et ⟨h, S, a4⟩
   obtain ⟨fw, gJ, rfl, h, az⟩ := rnd1 h
   unfold rollup_Roll_lp1 at h
   try dsimp only at h S a4
   refine (show WC _ _ _ _ [(0, v0), (1, vi a1), (7, ae), (14, v0), (15, vi (a0.length : Int)), (16, vi J)] _ from ?_)
   refine sq (rg (wY (Y.lss_i z z) z (nl (th (sq ?_)))))
   rcases cnd h with ⟨a5, h⟩ | ⟨a5, h⟩
   ·refine WC.condT' z a5 (sk (th (sq ?_)))
    obtain ⟨fx, h, a6⟩ := flow1 h
    refine WC.join (σ := (List api_Point × Own × Value)) (fun x w' => fx = .go x.1 ∧ Stp [11, 12, 13, 14, 1002] eo et x.2.1 w' ∧ OwnSl 1001 rep_api_Point 33 x.2.1 w' x.2.2 x.1) (fun x => [(0, v0), (1, vi a1), (7, x.2.2), (14, v0), (15, vi (a0.length : Int)), (16, vi J)]) ?_ ?_
    ·refine WC.block (sq (rg (wY (ym z) z ?_)))
     obtain ⟨K, eu, h⟩ := bnd h
     have bu := bt.i S z z
     obtain ⟨gK, fN, fO, gk, ew, ex, ey, a7, ca, ez⟩ := Sl.at2 bu eu
     obtain ⟨_, _, rfl, rfl, ⟨_, _, rfl, ⟨fy, rfl, eA⟩, ⟨_, _, rfl, rfl, ⟨_, _, rfl, rfl, ⟨_, _, rfl, rfl, ⟨_, _, rfl, rfl, ⟨_, _, rfl, rfl, ⟨_, _, rfl, rfl, ⟨_, _, rfl, rfl, ⟨_, _, rfl, rfl, ⟨_, _, rfl, ⟨_, _, rfl, rfl, ⟨_, _, rfl, rfl, ⟨_, _, rfl, ⟨_, _, rfl, rfl, ⟨fz, rfl, eB⟩⟩, ⟨_, _, rfl, rfl, ⟨fA, rfl, eC⟩⟩⟩⟩⟩, rfl⟩⟩⟩⟩⟩⟩⟩⟩⟩⟩⟩ := ca
     replace a7 : CellsAt _ _ _ (cp K fy fz fA) := a7
     have cb := CAt.imm a7 ez
     refine wY (Y.indexAddr ty22 ty33 z ew z ex ey) z (wY (yL ty33 z z cb.at_ z) z (WL.alloc (O := eo) 11 [vs [], sn, vi 0, vi 0, vB false, vi 0, vi 0, vi 0, vu 0, vu 0, vi 0, vu 0, vi 0, sn, vi 0, sn, vi 0] ty33 z z ?_))
     intro ay fB gl L eD
     refine wY (ya z) z ?_
     have bw := eA.i L z z
     have eE := h
     obtain ⟨T, U, V, rfl⟩ := bw.shape
     have h := eE
     have bx := eB.i L z z
     have eF := h
     obtain ⟨W, X, Z, rfl⟩ := bx.shape
     have h := eF
     have bz := eC.i L z z
     have eG := h
     obtain ⟨aa, ab, ac, rfl⟩ := bz.shape
     have h := eG
     refine WL.store (v := ag (cp K (vl T U V) (vl W X Z) (vl aa ab ac))) (cells' := (cp K (vl T U V) (vl W X Z) (vl aa ab ac))) ty33 z z eD z (le_ z) z z ?_
     intro gm M ap
     refine nl (th (sq (rg (wY (yL ty33 z z (ap.cells 0 (cp K (vl T U V) (vl W X Z) (vl aa ab ac)) z) z) z ?_))))
     have aA := bw.i M z z
     have aC := bx.i M z z
     have aD := bz.i M z z
     obtain ⟨aq, eH, h⟩ := bnd h
     refine WL.call (vals := [ag (cp K (vl T U V) (vl W X Z) (vl aa ab ac))]) kok19 z z (c_point_Check (A := fun _ => True) (a0 := K) (Sl.all aA) (Sl.all aC) (Sl.all aD) eH) ?_
     rintro gn bA ⟨rfl, eI⟩
     obtain ⟨bd, fC, fD, j⟩ := adoptE fB (fun k => 1) eI
     refine wY (ya z) z (nl (th (sq ?_)))
     obtain ⟨eJ, h, cc⟩ := bnd h
     refine WC.join (σ := (Int × Own)) (fun x w' => x.1 = eJ ∧ Stp [] bd bA x.2 w') (fun x => [(0, v0), (1, vi a1), (7, ae), (8, vi J), (9, pt ay 0), (10, vi x.1), (14, v0), (15, vi (a0.length : Int)), (16, vi J)]) ?_ ?_
     ·refine sq (rg (wY (ym z) z (wY (Y.eql_i z z) z (wY (ym z) z ?_))))
      refine WL.cut 3 (σ := Unit) (fun _ w' => bA = w') (fun _ => [(0, v0), (1, vi a1), (7, ae), (8, vi J), (9, pt ay 0), (10, vi aq), (14, v0), (15, vi (a0.length : Int)), (16, vi J), (28, vB ((decide (aq = 0)) && (decide (0 < J))))]) ?_ ?_
      ·refine WL.part 25 z (fun aE => ?_) (fun aE => ?_)
       ·refine ug z z (wY (ym z) z (ug z z (wY (Y.gtr_i z z) z (wY (Y.pick (b := true) z z) z (WL.ren (v' := vB ((decide (aq = 0)) && (decide (0 < J)))) 28 z (congrArg vB (andT aE)) ?_)))))
        exact nl (At.join () z (.cons z (.cons z (.cons z (.cons z (.cons z (.cons z (.cons z (.cons z (.cons z (.cons z .nil)))))))))))
       ·refine WL.gS z z z z (WL.gS z z z z (wY (Y.pick (b := false) z z) z (WL.ren (v' := vB ((decide (aq = 0)) && (decide (0 < J)))) 28 z (congrArg vB (andF aE)) ?_)))
        exact nl (At.join () z (.cons z (.cons z (.cons z (.cons z (.cons z (.cons z (.cons z (.cons z (.cons z (.cons z .nil)))))))))))
      ·rintro _ _ rfl
       refine (show WL _ _ _ _ _ [(0, v0), (1, vi a1), (7, ae), (8, vi J), (9, pt ay 0), (10, vi aq), (14, v0), (15, vi (a0.length : Int)), (16, vi J), (28, vB ((decide (aq = 0)) && (decide (0 < J))))] _ from ?_)
       refine nl (th ?_)
       rcases cnd h with ⟨aF, h⟩ | ⟨aF, h⟩
       ·refine WC.condT' z aF (WC.draw 6 bd fmix (by kernel_rfl) ?_)
        intro fP Q
        refine WS.y (ym z) z (WS.y (ym z) z (WS.y (Y.sub_i z z) z ?_))
        obtain ⟨a8, cd, h⟩ := bnd h
        have ch := (((bu.i L z z).i M z z).i j z z).i Q z z
        obtain ⟨gp, fF, fG, fQ, ci, cj, ck, aG, bB, cl⟩ := Sl.at2 ch cd
        obtain ⟨_, _, rfl, rfl, ⟨_, _, rfl, ⟨bC, rfl, cm⟩, ⟨_, _, rfl, rfl, ⟨_, _, rfl, rfl, ⟨_, _, rfl, rfl, ⟨_, _, rfl, rfl, ⟨_, _, rfl, rfl, ⟨_, _, rfl, rfl, ⟨_, _, rfl, rfl, ⟨_, _, rfl, rfl, ⟨_, _, rfl, ⟨_, _, rfl, rfl, ⟨_, _, rfl, rfl, ⟨_, _, rfl, ⟨_, _, rfl, rfl, ⟨bD, rfl, cn⟩⟩, ⟨_, _, rfl, rfl, ⟨bE, rfl, co⟩⟩⟩⟩⟩, rfl⟩⟩⟩⟩⟩⟩⟩⟩⟩⟩⟩ := bB
        replace aG : CellsAt _ _ _ (cp a8 bC bD bE) := aG
        have bF := CAt.imm aG cl
        refine WS.y (Y.indexAddr ty22 ty33 z ci z cj ck) z (WS.y (yL ty33 z z bF.at_ z) z ?_)
        have cr := (ap.st j z).st Q z
        refine WS.y (yL ty33 z z (cr.cells 0 (cp K (vl T U V) (vl W X Z) (vl aa ab ac)) z) z) z (WS.tail ?_)
        have ct := (aA.i j z z).i Q z z
        have cv := (aC.i j z z).i Q z z
        have cx := (aD.i j z z).i Q z z
        obtain ⟨eK, cy, h⟩ := bnd h
        refine WL.call (vals := [ag (cp a8 bC bD bE), ag (cp K (vl T U V) (vl W X Z) (vl aa ab ac))]) kok20 z z (c_rollup_fits (A := fun _ => True) (a0 := a8) (a1 := K) (Sl.all cm) (Sl.all cn) (Sl.all co) (Sl.all ct) (Sl.all cv) (Sl.all cx) cy) ?_
        rintro fR fT ⟨rfl, cz⟩
        obtain ⟨eL, fn, fo, bG⟩ := adoptE bd (fun k => 1) cz
        refine wY (ya z) z (nl ?_)
        exact At.join (σ := (Int × Own)) (eK, eL) ⟨some1 h, (tr_ (su_ Q z) (su_ bG z))⟩ (.cons z (.cons z (.cons z (.cons z (.cons z (.cons z (.cons z (.cons z (.cons z .nil)))))))))
       ·refine WC.condF' z aF (sk ?_)
        exact At.join (σ := (Int × Own)) (aq, bd) ⟨some1 h, (sr_ _ _ _)⟩ (.cons z (.cons z (.cons z (.cons z (.cons z (.cons z (.cons z (.cons z (.cons z .nil)))))))))
     ·rintro ⟨fH, aU⟩ eM ⟨rfl, n⟩
      replace h := cc
      try dsimp only at h n
      refine (show At _ _ _ [(0, v0), (1, vi a1), (7, ae), (8, vi J), (9, pt ay 0), (10, vi fH), (14, v0), (15, vi (a0.length : Int)), (16, vi J)] _ from ?_)
      refine th (sq (sq (rg (wY (ym z) z (wY (Y.neq_i z z) z (nl (th ?_)))))))
      rcases cnd h with ⟨aH, h⟩ | ⟨aH, h⟩
      ·refine WC.condT' z aH (sq (rg (wY (ym z) z (wY (ym z) z (wY (ya z) z (wY (ya z) z (wY (ya z) z (nl (th ?_)))))))))
       refine rt (At.thenR (At.inBlockR ?_))
       have h := outs1 h a6
       refine At.joinR (At.thenR (At.loopR ?_))
       have h := outr1 h az a3
       refine At.joinBR (At.inBlockR (At.thenR ?_))
       obtain ⟨rfl, rfl, rfl⟩ := tup3 h
       have cA : Stp [11, 12, 13, 14, 16, 1001, 1002] (Lg.O0 A) w aU eM := (tr_ (su_ S z) (tr_ (su_ L z) (tr_ (su_ M z) (tr_ (su_ j z) (su_ n z)))))
       exact At.res (.inl z) z (.tmp z (.tmp z (.tmp z .nil))) ⟨sn, z, (se_ cA z z), (Or.inl ⟨z, z⟩)⟩
      ·refine WC.condF' z aH (sk (th (sq (rg (wY (ym z) z ?_)))))
       have ao := (((a4.st L z z z).st M z z z).st j z z z).st n z z z
       refine wY (Y.len ty22 z ao.src.sl) z ?_
       obtain ⟨bf, bH, h⟩ := lt1 h
       refine WL.yE (ya z) (congrArg vi bH.symm) z (nl (th (sq (sq (WC.drawH [] [0, 1, 2, 3, 4, 5, 6, 7, 8, 9, 10, 11, 12, 13, 14, 15, 16] aU 17 fmix z (by kernel_rfl) ?_)))))
       intro cF l
       refine WD.y 0 z (by kernel_rfl) (fun _ _ _ => ym z) z (WD.y 1 z (by kernel_rfl) (fun _ _ _ => Y.eql_i z z) z (WD.y 2 z (by kernel_rfl) (fun _ _ _ => ym z) z ?_))
       obtain ⟨eN, h, cG⟩ := bnd h
       refine WD.join (σ := (Bool × Own)) (f' := 0) [16, 15, 14, 10, 13, 12, 11, 9, 8, 7, 6, 5, 4, 3, 2, 1, 0] (fun x O' w' => x.1 = eN ∧ Stp [] aU cF x.2 w' ∧ x.2 = O') (fun x => [(0, v0), (1, vi a1), (7, ae), (8, vi J), (9, pt ay 0), (11, vi bf), (14, v0), (15, vi (a0.length : Int)), (16, vi J), (58, vB x.1)]) (fun bg => ?_) ?_
       ·rcases cnd h with ⟨af, h⟩ | ⟨af, h⟩
        ·refine WD.ren 44 z (congrArg vB af) (WD.gS 3 z (by kernel_rfl) z z z z (WD.gS 4 z (by kernel_rfl) z z z z (WD.gS 5 z (by kernel_rfl) z z z z (WD.gS 6 z (by kernel_rfl) z z z z (WD.gS 7 z (by kernel_rfl) z z z z (WD.gS 8 z (by kernel_rfl) z z z z (WD.gS 9 z (by kernel_rfl) z z z z (WD.gS 11 z (by kernel_rfl) z z z z (WD.gS 12 z (by kernel_rfl) z z z z ?_)))))))))
         refine WD.gS 13 z (by kernel_rfl) z z z z (WD.heavy 10 z (by kernel_rfl) (WL.gS z z z z (nl (At.dq (sr_ _ _ _) (WD.heavy 14 z (by kernel_rfl) (WL.gS z z z z (nl (At.dq (sr_ _ _ _) (WD.gS 15 z (by kernel_rfl) z z z z ?_)))))))))
         refine WD.y 16 z (by kernel_rfl) (fun _ _ _ => Y.pick (b := true) z z) z (WD.ren 44 z (congrArg vB af.symm) ?_)
         exact bg (true, aU) _ _ _ ⟨some1 h, (sr_ _ _ _), z⟩ (.cons z (.cons z (.cons z (.cons z (.cons z (.cons z (.cons z (.cons z (.cons z (.cons z .nil))))))))))
        ·refine WD.ren 44 z (congrArg vB af) (WD.gT 3 z (by kernel_rfl) z z (fun _ _ _ => ym z) z (WD.gT 4 z (by kernel_rfl) z z (fun _ _ _ => ym z) z (WD.gT 5 z (by kernel_rfl) z z (fun _ _ _ => Y.sub_i z z) z ?_)))
         obtain ⟨a9, cH, h⟩ := bnd h
         have bh := ao.st l z z z
         obtain ⟨gq, fI, fU, bi, cI, cJ, aI, bI⟩ := OwnSl.at bh cH
         obtain ⟨_, _, rfl, rfl, ⟨_, _, rfl, ⟨eO, rfl, fV⟩, ⟨_, _, rfl, rfl, ⟨_, _, rfl, rfl, ⟨_, _, rfl, rfl, ⟨_, _, rfl, rfl, ⟨_, _, rfl, rfl, ⟨_, _, rfl, rfl, ⟨_, _, rfl, rfl, ⟨_, _, rfl, rfl, ⟨_, _, rfl, ⟨_, _, rfl, rfl, ⟨_, _, rfl, rfl, ⟨_, _, rfl, ⟨_, _, rfl, rfl, ⟨eP, rfl, fY⟩⟩, ⟨_, _, rfl, rfl, ⟨eQ, rfl, f0⟩⟩⟩⟩⟩, rfl⟩⟩⟩⟩⟩⟩⟩⟩⟩⟩⟩ := bI
         replace aI : CellsAt _ _ _ (cp a9 eO eP eQ) := aI
         have bJ := CAt.own bh bi aI
         refine WD.gT 6 z (by kernel_rfl) z z (fun _ _ _ => Y.indexAddr ty22 ty33 z bi z cI cJ) z (WD.gT 7 z (by kernel_rfl) z z (fun _ _ _ => yf fo33_6 z) z (WD.gT 8 z (by kernel_rfl) z z (fun f1 gr bK => have cK := bJ.st bK z; yl ty3 z z (cK.at_.sub 6 [vi a9.Time] z)) z (WD.gT 9 z (by kernel_rfl) z z (fun _ _ _ => ym z) z (WD.gT 11 z (by kernel_rfl) z z (fun _ _ _ => yf fo33_6 z) z (WD.gT 12 z (by kernel_rfl) z z (fun f2 gs bL => have cL := ap.st j z; have cM := cL.st n z; have cN := cM.st l z; have cO := cN.st bL z; yl ty3 z z (cO.cell 6 _ z)) z (WD.gT 13 z (by kernel_rfl) z z (fun _ _ _ => ym z) z (WD.heavy 10 z (by kernel_rfl) (ug z z ?_))))))))
         obtain ⟨eR, cP, h⟩ := bnd h
         refine WL.call (vals := [vi a9.Time, vi a1]) kok17 z z (c_rollup_Window cP) ?_
         rintro f3 f4 ⟨rfl, cQ⟩
         obtain ⟨eS, fp, fq, aW⟩ := adoptE aU (fun k => 1) cQ
         refine nl (At.dq (su_ aW z) (WD.heavy 14 z (by kernel_rfl) (ug z z ?_)))
         obtain ⟨eT, cR, h⟩ := bnd h
         refine WL.call (vals := [vi K.Time, vi a1]) kok17 z z (c_rollup_Window cR) ?_
         rintro f5 f6 ⟨rfl, cS⟩
         obtain ⟨eU, fs, ft, aX⟩ := adoptE eS (fun k => 1) cS
         refine nl (At.dq (su_ aX z) (WD.gT 15 z (by kernel_rfl) z z (fun _ _ _ => Y.neq_i z z) z (WD.y 16 z (by kernel_rfl) (fun _ _ _ => Y.pick (b := false) z z) z (WD.ren 44 z (congrArg vB af.symm) ?_))))
         exact bg ((!decide (eR = eT)), eU) _ _ _ ⟨some1 h, (tr_ (su_ aW z) (su_ aX z)), z⟩ (.cons z (.cons z (.cons z (.cons z (.cons z (.cons z (.cons z (.cons z (.cons z (.cons z .nil))))))))))
       ·rintro ⟨eV, ad⟩ _ f7 ⟨rfl, m, rfl⟩
        replace h := cG
        try dsimp only at h m
        refine (show WD _ _ _ _ _ _ _ _ [(0, v0), (1, vi a1), (7, ae), (8, vi J), (9, pt ay 0), (11, vi bf), (14, v0), (15, vi (a0.length : Int)), (16, vi J), (58, vB eV)] _ _ from ?_)
        refine WD.done_ (by kernel_rfl) (th ?_)
        rcases cnd h with ⟨aJ, h⟩ | ⟨aJ, h⟩
        ·refine WC.condT' z aJ (sq (rg (wY (ym z) z ?_)))
         have cW := (((ap.st j z).st n z).st l z).st m z
         refine wY (yL ty33 z z (cW.cells 0 (cp K (vl T U V) (vl W X Z) (vl aa ab ac)) z) z) z ?_
         have c0 := (((aA.i j z z).i n z z).i l z z).i m z z
         have c4 := (((aC.i j z z).i n z z).i l z z).i m z z
         have c8 := (((aD.i j z z).i n z z).i l z z).i m z z
         obtain ⟨c, c9, h⟩ := bnd h
         refine WL.call (vals := [ag (cp K (vl T U V) (vl W X Z) (vl aa ab ac))]) kok21 z z (c_point_Clone (A := fun _ => True) (a0 := K) (Sl.all c0) (Sl.all c4) (Sl.all c8) c9) ?_
         rintro f8 aK ⟨aL, ba, bM, rfl, da, eW, eX, eY, eZ, e0, e1⟩
         obtain ⟨bb, fu, al, aY⟩ := adoptE ad (fun k => if ob aL = some k then 12 else if ob ba = some k then 13 else if ob bM = some k then 14 else 1) da
         have bj : OwnSl 12 rep_api_Pair 65 bb aK aL c.Attrs := RowF.adopt 12 flat_api_Pair eW al (fun k hk => if_pos hk)
         have bk : OwnSl 13 Rep.u 26 bb aK ba c.Hist.Pos.Counts := RowF.adopt 13 Flat.u eX al (fun k hk => (if_neg (fun (e : ob aL = some k) => eZ k e hk)).trans (if_pos hk))
         have bl : OwnSl 14 Rep.u 26 bb aK bM c.Hist.Neg.Counts := RowF.adopt 14 Flat.u eY al (fun k hk => (if_neg (fun (e : ob aL = some k) => e0 k e hk)).trans ((if_neg (fun (e : ob ba = some k) => e1 k e hk)).trans (if_pos hk)))
         have db := h
         obtain ⟨ar, au, av, rfl⟩ := bj.shape
         have h := db
         have dc := h
         obtain ⟨o, p, q, rfl⟩ := bk.shape
         have h := dc
         have dd := h
         obtain ⟨r, t, C, rfl⟩ := bl.shape
         have h := dd
         obtain ⟨gt, ah, de⟩ := OwnSl.giveF rfl flat_api_Pair bj
         have df := bk.st ah z z z
         obtain ⟨gu, ai, dg⟩ := OwnSl.giveF rfl Flat.u df
         have di := (bl.st ah z z z).st ai z z z
         obtain ⟨e2, aj, dj⟩ := OwnSl.giveF rfl Flat.u di
         have dl := (de.f ai z).f aj z
         have dm := dg.f aj z
         refine WL.buildSlice (O := e2) (R := rep_api_Point) (vals := [(0, ag (cp c (vl ar au av) (vl o p q) (vl r t C)))]) 15 (cp c (vl ar au av) (vl o p q) (vl r t C)) (xs := [c]) (by decide) ty22 ty33 (by decide) (by decide) (fe_ z) (by kernel_rfl) z ⟨(cp c (vl ar au av) (vl o p q) (vl r t C)), [], z, ⟨[vs c.Name], [(vl ar au av), vi c.Kind, vi c.Temp, vB c.Mono, vi c.Start, vi c.Time, vi c.Int_, vu c.Re, vu c.Im, vi c.Hist.Scale, vu c.Hist.Zero, vi c.Hist.Pos.Offset, (vl o p q), vi c.Hist.Neg.Offset, (vl r t C), vi c.Flags], z, z, ⟨[(vl ar au av)], [vi c.Kind, vi c.Temp, vB c.Mono, vi c.Start, vi c.Time, vi c.Int_, vu c.Re, vu c.Im, vi c.Hist.Scale, vu c.Hist.Zero, vi c.Hist.Pos.Offset, (vl o p q), vi c.Hist.Neg.Offset, (vl r t C), vi c.Flags], z, ⟨_, z, (Sl.mono dl frs_imm)⟩, ⟨[vi c.Kind], [vi c.Temp, vB c.Mono, vi c.Start, vi c.Time, vi c.Int_, vu c.Re, vu c.Im, vi c.Hist.Scale, vu c.Hist.Zero, vi c.Hist.Pos.Offset, (vl o p q), vi c.Hist.Neg.Offset, (vl r t C), vi c.Flags], z, z, ⟨[vi c.Temp], [vB c.Mono, vi c.Start, vi c.Time, vi c.Int_, vu c.Re, vu c.Im, vi c.Hist.Scale, vu c.Hist.Zero, vi c.Hist.Pos.Offset, (vl o p q), vi c.Hist.Neg.Offset, (vl r t C), vi c.Flags], z, z, ⟨[vB c.Mono], [vi c.Start, vi c.Time, vi c.Int_, vu c.Re, vu c.Im, vi c.Hist.Scale, vu c.Hist.Zero, vi c.Hist.Pos.Offset, (vl o p q), vi c.Hist.Neg.Offset, (vl r t C), vi c.Flags], z, z, ⟨[vi c.Start], [vi c.Time, vi c.Int_, vu c.Re, vu c.Im, vi c.Hist.Scale, vu c.Hist.Zero, vi c.Hist.Pos.Offset, (vl o p q), vi c.Hist.Neg.Offset, (vl r t C), vi c.Flags], z, z, ⟨[vi c.Time], [vi c.Int_, vu c.Re, vu c.Im, vi c.Hist.Scale, vu c.Hist.Zero, vi c.Hist.Pos.Offset, (vl o p q), vi c.Hist.Neg.Offset, (vl r t C), vi c.Flags], z, z, ⟨[vi c.Int_], [vu c.Re, vu c.Im, vi c.Hist.Scale, vu c.Hist.Zero, vi c.Hist.Pos.Offset, (vl o p q), vi c.Hist.Neg.Offset, (vl r t C), vi c.Flags], z, z, ⟨[vu c.Re], [vu c.Im, vi c.Hist.Scale, vu c.Hist.Zero, vi c.Hist.Pos.Offset, (vl o p q), vi c.Hist.Neg.Offset, (vl r t C), vi c.Flags], z, z, ⟨[vu c.Im], [vi c.Hist.Scale, vu c.Hist.Zero, vi c.Hist.Pos.Offset, (vl o p q), vi c.Hist.Neg.Offset, (vl r t C), vi c.Flags], z, z, ⟨(hl c.Hist (vl o p q) (vl r t C)), [vi c.Flags], z, ⟨[vi c.Hist.Scale], [vu c.Hist.Zero, vi c.Hist.Pos.Offset, (vl o p q), vi c.Hist.Neg.Offset, (vl r t C)], z, z, ⟨[vu c.Hist.Zero], [vi c.Hist.Pos.Offset, (vl o p q), vi c.Hist.Neg.Offset, (vl r t C)], z, z, ⟨[vi c.Hist.Pos.Offset, (vl o p q)], [vi c.Hist.Neg.Offset, (vl r t C)], z, ⟨[vi c.Hist.Pos.Offset], [(vl o p q)], z, z, ⟨_, z, (Sl.mono dm frs_imm)⟩⟩, ⟨[vi c.Hist.Neg.Offset], [(vl r t C)], z, z, ⟨_, z, (Sl.mono dj frs_imm)⟩⟩⟩⟩⟩, z⟩⟩⟩⟩⟩⟩⟩⟩⟩⟩⟩, z⟩ z ?_
         intro gw gz f9 aZ dn
         obtain ⟨dp, bO, h⟩ := bnd h
         have dy := ((((((ao.st l z z z).st m z z z).st aY z z z).st ah z z z).st ai z z z).st aj z z z).st aZ z z z
         refine WL.append (by decide) ty22 ty33 z (by decide) z z dy dn.src bO z ?_
         intro e5 gB ga bP dz
         refine wY (ya z) z (nl (th (WC.exit (At.thenX (At.inBlockHit ?_)))))
         obtain ⟨e6, bQ, dA⟩ := OwnSl.rlb 1001 rfl dz
         exact At.join (σ := (List api_Point × Own × Value)) (dp, e6, e5) ⟨go2 h, (tr_ (su_ L z) (tr_ (su_ M z) (tr_ (su_ j z) (tr_ (su_ n z) (tr_ (su_ l z) (tr_ (su_ m z) (tr_ (su_ aY z) (tr_ (su_ ah z) (tr_ (su_ ai z) (tr_ (su_ aj z) (tr_ (su_ aZ z) (tr_ (su_ bP z) (su_ bQ z))))))))))))), dA⟩ (.cons z (.cons z (.cons z (.cons z (.cons z (.cons z .nil))))))
        ·refine WC.condF' z aJ (sk (th (sq (WC.drawH [1002] [0, 1, 2, 3, 4, 5, 6, 7, 8, 9, 10, 11, 12, 13, 14, 15] ad 16 fmix z (by kernel_rfl) ?_))))
         intro gb P
         refine WD.y 0 z (by kernel_rfl) (fun _ _ _ => ym z) z (WD.y 1 z (by kernel_rfl) (fun _ _ _ => ym z) z (WD.y 2 z (by kernel_rfl) (fun _ _ _ => Y.sub_i z z) z (WD.y 3 z (by kernel_rfl) (fun _ _ _ => ym z) z (WD.y 4 z (by kernel_rfl) (fun _ _ _ => ym z) z (WD.y 5 z (by kernel_rfl) (fun _ _ _ => Y.sub_i z z) z ?_)))))
         obtain ⟨bc, dB, h⟩ := bnd h
         have aM := ((ao.st l z z z).st m z z z).st P z z z
         obtain ⟨gC, fJ, gc, bm, dE, dF, aN, bR⟩ := OwnSl.at aM dB
         obtain ⟨_, _, rfl, rfl, ⟨_, _, rfl, ⟨bS, rfl, dG⟩, ⟨_, _, rfl, rfl, ⟨_, _, rfl, rfl, ⟨_, _, rfl, rfl, ⟨_, _, rfl, rfl, ⟨_, _, rfl, rfl, ⟨_, _, rfl, rfl, ⟨_, _, rfl, rfl, ⟨_, _, rfl, rfl, ⟨_, _, rfl, ⟨_, _, rfl, rfl, ⟨_, _, rfl, rfl, ⟨_, _, rfl, ⟨_, _, rfl, rfl, ⟨bT, rfl, dH⟩⟩, ⟨_, _, rfl, rfl, ⟨bU, rfl, dI⟩⟩⟩⟩⟩, rfl⟩⟩⟩⟩⟩⟩⟩⟩⟩⟩⟩ := bR
         replace aN : CellsAt _ _ _ (cp bc bS bT bU) := aN
         have bW := CAt.own aM bm aN
         refine WD.y 6 z (by kernel_rfl) (fun _ _ _ => Y.indexAddr ty22 ty33 z bm z dE dF) z (WD.y 8 z (by kernel_rfl) (fun gd gE bX => have dJ := ap.st j z; have dK := dJ.st n z; have dL := dK.st l z; have dM := dL.st m z; have dN := dM.st P z; have dO := dN.st bX z; yL ty33 z z (dO.cells 0 (cp K (vl T U V) (vl W X Z) (vl aa ab ac)) z) z) z (WD.heavy 7 z (by kernel_rfl) (wY (yL ty33 z z bW.at_ z) z (nl (At.dq (sr_ _ _ _) (WD.heavy 9 z (by kernel_rfl) ?_))))))
         have dT := ((((aA.i j z z).i n z z).i l z z).i m z z).i P z z
         have dY := ((((aC.i j z z).i n z z).i l z z).i m z z).i P z z
         have d3 := ((((aD.i j z z).i n z z).i l z z).i m z z).i P z z
         obtain ⟨⟨d, gG⟩, d4, h⟩ := bnd h
         refine WL.call (vals := [ag (cp bc bS bT bU), ag (cp K (vl T U V) (vl W X Z) (vl aa ab ac))]) kok22 z z (c_rollup_join (A := imm ad) (a0 := bc) (a1 := K) dG dH dI dT dY d3 d4) ?_
         rintro ge aO ⟨e7, e8, e9, rfl, d5, fa, fc, fd⟩
         obtain ⟨aP, am, an, ak⟩ := adoptE ad (fun k => 1) d5
         have bn : Sl rep_api_Pair aO (imm aP) e7 d.Attrs := Sl.adoptI (O := ad) fa (fun _ hk => hk) (fun _ _ => Nat.le_refl _) am an
         have bo : Sl Rep.u aO (imm aP) e8 d.Hist.Pos.Counts := Sl.adoptI (O := ad) fc (fun _ hk => hk) (fun _ _ => Nat.le_refl _) am an
         have bp : Sl Rep.u aO (imm aP) e9 d.Hist.Neg.Counts := Sl.adoptI (O := ad) fd (fun _ hk => hk) (fun _ _ => Nat.le_refl _) am an
         refine nl (At.dq (su_ ak z) (WD.y 10 z (by kernel_rfl) (fun _ _ _ => ym z) z (WD.y 11 z (by kernel_rfl) (fun _ _ _ => yx z z) z (WD.y 12 z (by kernel_rfl) (fun _ _ _ => yx z z) z ?_))))
         obtain ⟨fe, d6, h⟩ := bnd h
         have aQ := aM.st ak z z z
         obtain ⟨gH, fK, gf, aR, d7, d8, aS, bY⟩ := OwnSl.at aQ d6
         obtain ⟨_, _, rfl, rfl, ⟨_, _, rfl, ⟨ff, rfl, gg⟩, ⟨_, _, rfl, rfl, ⟨_, _, rfl, rfl, ⟨_, _, rfl, rfl, ⟨_, _, rfl, rfl, ⟨_, _, rfl, rfl, ⟨_, _, rfl, rfl, ⟨_, _, rfl, rfl, ⟨_, _, rfl, rfl, ⟨_, _, rfl, ⟨_, _, rfl, rfl, ⟨_, _, rfl, rfl, ⟨_, _, rfl, ⟨_, _, rfl, rfl, ⟨fg, rfl, gh⟩⟩, ⟨_, _, rfl, rfl, ⟨fh, rfl, gi⟩⟩⟩⟩⟩, rfl⟩⟩⟩⟩⟩⟩⟩⟩⟩⟩⟩ := bY
         replace aS : CellsAt _ _ _ (cp fe ff fg fh) := aS
         have fL := CAt.own aQ aR aS
         refine WD.y 13 z (by kernel_rfl) (fun _ _ _ => Y.indexAddr ty22 ty33 z aR z d7 d8) z (WD.heavy 14 z (by kernel_rfl) ?_)
         have d9 := h
         obtain ⟨bZ, b0, b1, rfl⟩ := bn.shape
         have h := d9
         have ea := h
         obtain ⟨D, E, F, rfl⟩ := bo.shape
         have h := ea
         have eb := h
         obtain ⟨G, H, I, rfl⟩ := bp.shape
         have h := eb
         obtain ⟨ec, b2, h⟩ := bnd h
         refine WL.storeOwn (R := rep_api_Point) (u := d) (by decide) ty33 z z ⟨[vs d.Name], [(vl bZ b0 b1), vi d.Kind, vi d.Temp, vB d.Mono, vi d.Start, vi d.Time, vi d.Int_, vu d.Re, vu d.Im, vi d.Hist.Scale, vu d.Hist.Zero, vi d.Hist.Pos.Offset, (vl D E F), vi d.Hist.Neg.Offset, (vl G H I), vi d.Flags], z, z, ⟨[(vl bZ b0 b1)], [vi d.Kind, vi d.Temp, vB d.Mono, vi d.Start, vi d.Time, vi d.Int_, vu d.Re, vu d.Im, vi d.Hist.Scale, vu d.Hist.Zero, vi d.Hist.Pos.Offset, (vl D E F), vi d.Hist.Neg.Offset, (vl G H I), vi d.Flags], z, ⟨_, z, bn⟩, ⟨[vi d.Kind], [vi d.Temp, vB d.Mono, vi d.Start, vi d.Time, vi d.Int_, vu d.Re, vu d.Im, vi d.Hist.Scale, vu d.Hist.Zero, vi d.Hist.Pos.Offset, (vl D E F), vi d.Hist.Neg.Offset, (vl G H I), vi d.Flags], z, z, ⟨[vi d.Temp], [vB d.Mono, vi d.Start, vi d.Time, vi d.Int_, vu d.Re, vu d.Im, vi d.Hist.Scale, vu d.Hist.Zero, vi d.Hist.Pos.Offset, (vl D E F), vi d.Hist.Neg.Offset, (vl G H I), vi d.Flags], z, z, ⟨[vB d.Mono], [vi d.Start, vi d.Time, vi d.Int_, vu d.Re, vu d.Im, vi d.Hist.Scale, vu d.Hist.Zero, vi d.Hist.Pos.Offset, (vl D E F), vi d.Hist.Neg.Offset, (vl G H I), vi d.Flags], z, z, ⟨[vi d.Start], [vi d.Time, vi d.Int_, vu d.Re, vu d.Im, vi d.Hist.Scale, vu d.Hist.Zero, vi d.Hist.Pos.Offset, (vl D E F), vi d.Hist.Neg.Offset, (vl G H I), vi d.Flags], z, z, ⟨[vi d.Time], [vi d.Int_, vu d.Re, vu d.Im, vi d.Hist.Scale, vu d.Hist.Zero, vi d.Hist.Pos.Offset, (vl D E F), vi d.Hist.Neg.Offset, (vl G H I), vi d.Flags], z, z, ⟨[vi d.Int_], [vu d.Re, vu d.Im, vi d.Hist.Scale, vu d.Hist.Zero, vi d.Hist.Pos.Offset, (vl D E F), vi d.Hist.Neg.Offset, (vl G H I), vi d.Flags], z, z, ⟨[vu d.Re], [vu d.Im, vi d.Hist.Scale, vu d.Hist.Zero, vi d.Hist.Pos.Offset, (vl D E F), vi d.Hist.Neg.Offset, (vl G H I), vi d.Flags], z, z, ⟨[vu d.Im], [vi d.Hist.Scale, vu d.Hist.Zero, vi d.Hist.Pos.Offset, (vl D E F), vi d.Hist.Neg.Offset, (vl G H I), vi d.Flags], z, z, ⟨(hl d.Hist (vl D E F) (vl G H I)), [vi d.Flags], z, ⟨[vi d.Hist.Scale], [vu d.Hist.Zero, vi d.Hist.Pos.Offset, (vl D E F), vi d.Hist.Neg.Offset, (vl G H I)], z, z, ⟨[vu d.Hist.Zero], [vi d.Hist.Pos.Offset, (vl D E F), vi d.Hist.Neg.Offset, (vl G H I)], z, z, ⟨[vi d.Hist.Pos.Offset, (vl D E F)], [vi d.Hist.Neg.Offset, (vl G H I)], z, ⟨[vi d.Hist.Pos.Offset], [(vl D E F)], z, z, ⟨_, z, bo⟩⟩, ⟨[vi d.Hist.Neg.Offset], [(vl G H I)], z, z, ⟨_, z, bp⟩⟩⟩⟩⟩, z⟩⟩⟩⟩⟩⟩⟩⟩⟩⟩⟩ aQ aR b2 ?_
         intro ed ax ee
         refine nl (At.dq (su_ ax z) (WD.y 15 z (by kernel_rfl) (fun _ _ _ => ya z) z (WD.done_ (by kernel_rfl) (th (sq (rg (wY (ym z) z (wY (Y.neq_i z z) z (nl ?_)))))))))
         refine th ?_
         rcases cnd h with ⟨aT, h⟩ | ⟨aT, h⟩
         ·refine WC.condT' z aT (sq (rg (wY (ym z) z (wY (ym z) z (wY (ya z) z (wY (ya z) z (wY (ya z) z (nl (th ?_)))))))))
          refine rt (At.inBlockR ?_)
          have h := outs1 h a6
          refine At.joinR (At.thenR (At.loopR ?_))
          have h := outr1 h az a3
          refine At.joinBR (At.inBlockR (At.thenR ?_))
          obtain ⟨rfl, rfl, rfl⟩ := tup3 h
          have ef : Stp [11, 12, 13, 14, 16, 1001, 1002] (Lg.O0 A) w aP ed := (tr_ (su_ S z) (tr_ (su_ L z) (tr_ (su_ M z) (tr_ (su_ j z) (tr_ (su_ n z) (tr_ (su_ l z) (tr_ (su_ m z) (tr_ (su_ P z) (tr_ (su_ ak z) (su_ ax z))))))))))
          exact At.res (.inl z) z (.tmp z (.tmp z (.tmp z .nil))) ⟨sn, z, (se_ ef z z), (Or.inl ⟨z, z⟩)⟩
         ·refine WC.condF' z aT (sk (At.inBlock ?_))
          obtain ⟨fi, b3, eg⟩ := OwnSl.rlb 1001 rfl ee
          exact At.join (σ := (List api_Point × Own × Value)) (ec, fi, ae) ⟨go2 h, (tr_ (su_ L z) (tr_ (su_ M z) (tr_ (su_ j z) (tr_ (su_ n z) (tr_ (su_ l z) (tr_ (su_ m z) (tr_ (su_ P z) (tr_ (su_ ak z) (tr_ (su_ ax z) (su_ b3 z)))))))))), eg⟩ (.cons z (.cons z (.cons z (.cons z (.cons z (.cons z .nil))))))
    ·rintro ⟨eh, gL, ep⟩ gI ⟨rfl, bq, b4⟩
     replace h := flowK_go a6
     try dsimp only at h bq b4
     refine (show At _ _ _ [(0, v0), (1, vi a1), (7, ep), (14, v0), (15, vi (a0.length : Int)), (16, vi J)] _ from ?_)
     refine th (rg (wY (Y.add_i z z) z (wY (ym z) z (nl ?_))))
     obtain ⟨fj, b5, ei⟩ := OwnSl.rlb 1002 rfl b4
     exact At.round (eh, w64 (J + 1), fj, ep) fw (Nat.lt_succ_self _) ⟨next1 h az, (tr_ (su_ S z) (tr_ (su_ bq z) (su_ b5 z))), ei⟩ (.cons z (.cons z (.cons z (.cons z (.cons z (.cons z .nil))))))
   ·refine WC.condF' z a5 (WC.exit (At.thenX (At.loopX ?_)))
    obtain ⟨fk, b6, ej⟩ := OwnSl.rlb 1003 rfl a4
    exact At.hitB (σ := (List api_Point × Own × Value)) (b9, fk, ae) ⟨brk1 h az, (tr_ (su_ S z) (su_ b6 z)), ej⟩ (.cons z .nil)
  ·rintro ⟨gj, gM, er⟩ fl ⟨rfl, br, b7⟩
   replace h := flowK_go a3
   try dsimp only at h br b7
   refine (show At _ _ _ [(7, er)] _ from ?_)
   refine At.inBlockHit (th (sq (rg (wY (ym z) z (wY (ya z) z (wY (ya z) z (wY (ya z) z (nl (th ?_)))))))))
   refine rt ?_
   obtain ⟨rfl, rfl, rfl⟩ := tup3 h
   obtain ⟨fm, b8, ek⟩ := OwnSl.give rfl b7
   have bs : Stp [11, 12, 13, 14, 16, 1001, 1002, 1003] (Lg.O0 A) w fm fl := (tr_ (su_ br z) (su_ b8 z))
   exact At.res (.inl z) z (.tmp z (.tmp z (.tmp z .nil))) ⟨er, z, (se_ bs z z), (Sl.outI ek bs low0 O0_A)⟩
theorem c_law36_awake {w : World} {r0 : Bool} (h : law36_awake = some r0) : Rets Try.prog 6 [] w (fun v w' => v = vB r0 ∧ Ext w w') := by
 unfold law36_awake at h
 refine Rets.enter Try.func6 z z ?_
 refine (show WC _ _ _ _ [] _ from ?_)
 refine sq (rg (wY (ya z) z (nl (th (sq (rg (wY (yb (vals := [(0, vs [120]), (2, vi 1), (3, vi 2), (5, vi 5), (6, vi 10), (7, vi 5)]) (cells := [vs [120], sn, vi 1, vi 2, vB false, vi 5, vi 10, vi 5, vu 0, vu 0, vi 0, vu 0, vi 0, sn, vi 0, sn, vi 0]) (fe_ z) (by kernel_rfl)) z (WL.alloc (O := (Lg.O0 (fun _ => False))) 11 [vs [], sn, vi 0, vi 0, vB false, vi 0, vi 0, vi 0, vu 0, vu 0, vi 0, vu 0, vi 0, sn, vi 0, sn, vi 0] ty33 z z ?_))))))))
 intro c7 cf cS aA bj
 refine WL.store (v := Value.agg (List.toArray [vs [120], sn, vi 1, vi 2, vB false, vi 5, vi 10, vi 5, vu 0, vu 0, vi 0, vu 0, vi 0, sn, vi 0, sn, vi 0])) (cells' := [vs [120], sn, vi 1, vi 2, vB false, vi 5, vi 10, vi 5, vu 0, vu 0, vi 0, vu 0, vi 0, sn, vi 0, sn, vi 0]) ty33 z z bj z (le_ z) z z ?_
 intro cT aC bk
 refine nl (th (sq (rg (wY (yb (vals := [(0, vs [120]), (2, vi 1), (3, vi 2), (5, vi 10), (6, vi 12), (7, vi 3)]) (cells := [vs [120], sn, vi 1, vi 2, vB false, vi 10, vi 12, vi 3, vu 0, vu 0, vi 0, vu 0, vi 0, sn, vi 0, sn, vi 0]) (fe_ z) (by kernel_rfl)) z (WL.alloc (O := cf) 12 [vs [], sn, vi 0, vi 0, vB false, vi 0, vi 0, vi 0, vu 0, vu 0, vi 0, vu 0, vi 0, sn, vi 0, sn, vi 0] ty33 z z ?_)))))
 intro c8 cg cU aa bl
 refine WL.store (v := Value.agg (List.toArray [vs [120], sn, vi 1, vi 2, vB false, vi 10, vi 12, vi 3, vu 0, vu 0, vi 0, vu 0, vi 0, sn, vi 0, sn, vi 0])) (cells' := [vs [120], sn, vi 1, vi 2, vB false, vi 10, vi 12, vi 3, vu 0, vu 0, vi 0, vu 0, vi 0, sn, vi 0, sn, vi 0]) ty33 z z bl z (le_ z) z z ?_
 intro cV ab bm
 refine nl (th (sq (rg (wY (yb (vals := [(0, vs [120]), (2, vi 1), (3, vi 2), (5, vi 20), (6, vi 25), (7, vi 2)]) (cells := [vs [120], sn, vi 1, vi 2, vB false, vi 20, vi 25, vi 2, vu 0, vu 0, vi 0, vu 0, vi 0, sn, vi 0, sn, vi 0]) (fe_ z) (by kernel_rfl)) z (WL.alloc (O := cg) 13 [vs [], sn, vi 0, vi 0, vB false, vi 0, vi 0, vi 0, vu 0, vu 0, vi 0, vu 0, vi 0, sn, vi 0, sn, vi 0] ty33 z z ?_)))))
 intro c9 ch cW r bn
 refine WL.store (v := Value.agg (List.toArray [vs [120], sn, vi 1, vi 2, vB false, vi 20, vi 25, vi 2, vu 0, vu 0, vi 0, vu 0, vi 0, sn, vi 0, sn, vi 0])) (cells' := [vs [120], sn, vi 1, vi 2, vB false, vi 20, vi 25, vi 2, vu 0, vu 0, vi 0, vu 0, vi 0, sn, vi 0, sn, vi 0]) ty33 z z bn z (le_ z) z z ?_
 intro cX t bo
 refine nl (th (sq (rg ?_)))
 have ae := (((bk.st aa z).st ab z).st r z).st t z
 refine wY (yL ty33 z z (ae.cells 0 [vs [120], sn, vi 1, vi 2, vB false, vi 5, vi 10, vi 5, vu 0, vu 0, vi 0, vu 0, vi 0, sn, vi 0, sn, vi 0] z) z) z ?_
 have af := (bm.st r z).st t z
 refine wY (yL ty33 z z (af.cells 0 [vs [120], sn, vi 1, vi 2, vB false, vi 10, vi 12, vi 3, vu 0, vu 0, vi 0, vu 0, vi 0, sn, vi 0, sn, vi 0] z) z) z (wY (yL ty33 z z (bo.cells 0 [vs [120], sn, vi 1, vi 2, vB false, vi 20, vi 25, vi 2, vu 0, vu 0, vi 0, vu 0, vi 0, sn, vi 0, sn, vi 0] z) z) z (WL.buildSlice (O := ch) (R := rep_api_Point) (vals := [(0, Value.agg (List.toArray [vs [120], sn, vi 1, vi 2, vB false, vi 5, vi 10, vi 5, vu 0, vu 0, vi 0, vu 0, vi 0, sn, vi 0, sn, vi 0])), (1, Value.agg (List.toArray [vs [120], sn, vi 1, vi 2, vB false, vi 10, vi 12, vi 3, vu 0, vu 0, vi 0, vu 0, vi 0, sn, vi 0, sn, vi 0])), (2, Value.agg (List.toArray [vs [120], sn, vi 1, vi 2, vB false, vi 20, vi 25, vi 2, vu 0, vu 0, vi 0, vu 0, vi 0, sn, vi 0, sn, vi 0]))]) 14 [vs [120], sn, vi 1, vi 2, vB false, vi 5, vi 10, vi 5, vu 0, vu 0, vi 0, vu 0, vi 0, sn, vi 0, sn, vi 0, vs [120], sn, vi 1, vi 2, vB false, vi 10, vi 12, vi 3, vu 0, vu 0, vi 0, vu 0, vi 0, sn, vi 0, sn, vi 0, vs [120], sn, vi 1, vi 2, vB false, vi 20, vi 25, vi 2, vu 0, vu 0, vi 0, vu 0, vi 0, sn, vi 0, sn, vi 0] (xs := [(api_Point.mk [120] [] 1 2 false 5 10 5 0 0 (api_Hist.mk 0 0 (api_Side.mk 0 []) (api_Side.mk 0 [])) 0), (api_Point.mk [120] [] 1 2 false 10 12 3 0 0 (api_Hist.mk 0 0 (api_Side.mk 0 []) (api_Side.mk 0 [])) 0), (api_Point.mk [120] [] 1 2 false 20 25 2 0 0 (api_Hist.mk 0 0 (api_Side.mk 0 []) (api_Side.mk 0 [])) 0)]) (by decide) ty22 ty33 (by decide) (by decide) (fe_ z) (by kernel_rfl) z ⟨[vs [120], sn, vi 1, vi 2, vB false, vi 5, vi 10, vi 5, vu 0, vu 0, vi 0, vu 0, vi 0, sn, vi 0, sn, vi 0], [vs [120], sn, vi 1, vi 2, vB false, vi 10, vi 12, vi 3, vu 0, vu 0, vi 0, vu 0, vi 0, sn, vi 0, sn, vi 0, vs [120], sn, vi 1, vi 2, vB false, vi 20, vi 25, vi 2, vu 0, vu 0, vi 0, vu 0, vi 0, sn, vi 0, sn, vi 0], z, ⟨[vs [120]], [sn, vi 1, vi 2, vB false, vi 5, vi 10, vi 5, vu 0, vu 0, vi 0, vu 0, vi 0, sn, vi 0, sn, vi 0], z, z, ⟨[sn], [vi 1, vi 2, vB false, vi 5, vi 10, vi 5, vu 0, vu 0, vi 0, vu 0, vi 0, sn, vi 0, sn, vi 0], z, ⟨_, z, (Or.inl ⟨z, z⟩)⟩, ⟨[vi 1], [vi 2, vB false, vi 5, vi 10, vi 5, vu 0, vu 0, vi 0, vu 0, vi 0, sn, vi 0, sn, vi 0], z, z, ⟨[vi 2], [vB false, vi 5, vi 10, vi 5, vu 0, vu 0, vi 0, vu 0, vi 0, sn, vi 0, sn, vi 0], z, z, ⟨[vB false], [vi 5, vi 10, vi 5, vu 0, vu 0, vi 0, vu 0, vi 0, sn, vi 0, sn, vi 0], z, z, ⟨[vi 5], [vi 10, vi 5, vu 0, vu 0, vi 0, vu 0, vi 0, sn, vi 0, sn, vi 0], z, z, ⟨[vi 10], [vi 5, vu 0, vu 0, vi 0, vu 0, vi 0, sn, vi 0, sn, vi 0], z, z, ⟨[vi 5], [vu 0, vu 0, vi 0, vu 0, vi 0, sn, vi 0, sn, vi 0], z, z, ⟨[vu 0], [vu 0, vi 0, vu 0, vi 0, sn, vi 0, sn, vi 0], z, z, ⟨[vu 0], [vi 0, vu 0, vi 0, sn, vi 0, sn, vi 0], z, z, ⟨hzr, [vi 0], z, ⟨[vi 0], [vu 0, vi 0, sn, vi 0, sn], z, z, ⟨[vu 0], [vi 0, sn, vi 0, sn], z, z, ⟨[vi 0, sn], [vi 0, sn], z, ⟨[vi 0], [sn], z, z, ⟨_, z, (Or.inl ⟨z, z⟩)⟩⟩, ⟨[vi 0], [sn], z, z, ⟨_, z, (Or.inl ⟨z, z⟩)⟩⟩⟩⟩⟩, z⟩⟩⟩⟩⟩⟩⟩⟩⟩⟩⟩, ⟨[vs [120], sn, vi 1, vi 2, vB false, vi 10, vi 12, vi 3, vu 0, vu 0, vi 0, vu 0, vi 0, sn, vi 0, sn, vi 0], [vs [120], sn, vi 1, vi 2, vB false, vi 20, vi 25, vi 2, vu 0, vu 0, vi 0, vu 0, vi 0, sn, vi 0, sn, vi 0], z, ⟨[vs [120]], [sn, vi 1, vi 2, vB false, vi 10, vi 12, vi 3, vu 0, vu 0, vi 0, vu 0, vi 0, sn, vi 0, sn, vi 0], z, z, ⟨[sn], [vi 1, vi 2, vB false, vi 10, vi 12, vi 3, vu 0, vu 0, vi 0, vu 0, vi 0, sn, vi 0, sn, vi 0], z, ⟨_, z, (Or.inl ⟨z, z⟩)⟩, ⟨[vi 1], [vi 2, vB false, vi 10, vi 12, vi 3, vu 0, vu 0, vi 0, vu 0, vi 0, sn, vi 0, sn, vi 0], z, z, ⟨[vi 2], [vB false, vi 10, vi 12, vi 3, vu 0, vu 0, vi 0, vu 0, vi 0, sn, vi 0, sn, vi 0], z, z, ⟨[vB false], [vi 10, vi 12, vi 3, vu 0, vu 0, vi 0, vu 0, vi 0, sn, vi 0, sn, vi 0], z, z, ⟨[vi 10], [vi 12, vi 3, vu 0, vu 0, vi 0, vu 0, vi 0, sn, vi 0, sn, vi 0], z, z, ⟨[vi 12], [vi 3, vu 0, vu 0, vi 0, vu 0, vi 0, sn, vi 0, sn, vi 0], z, z, ⟨[vi 3], [vu 0, vu 0, vi 0, vu 0, vi 0, sn, vi 0, sn, vi 0], z, z, ⟨[vu 0], [vu 0, vi 0, vu 0, vi 0, sn, vi 0, sn, vi 0], z, z, ⟨[vu 0], [vi 0, vu 0, vi 0, sn, vi 0, sn, vi 0], z, z, ⟨hzr, [vi 0], z, ⟨[vi 0], [vu 0, vi 0, sn, vi 0, sn], z, z, ⟨[vu 0], [vi 0, sn, vi 0, sn], z, z, ⟨[vi 0, sn], [vi 0, sn], z, ⟨[vi 0], [sn], z, z, ⟨_, z, (Or.inl ⟨z, z⟩)⟩⟩, ⟨[vi 0], [sn], z, z, ⟨_, z, (Or.inl ⟨z, z⟩)⟩⟩⟩⟩⟩, z⟩⟩⟩⟩⟩⟩⟩⟩⟩⟩⟩, ⟨[vs [120], sn, vi 1, vi 2, vB false, vi 20, vi 25, vi 2, vu 0, vu 0, vi 0, vu 0, vi 0, sn, vi 0, sn, vi 0], [], z, ⟨[vs [120]], [sn, vi 1, vi 2, vB false, vi 20, vi 25, vi 2, vu 0, vu 0, vi 0, vu 0, vi 0, sn, vi 0, sn, vi 0], z, z, ⟨[sn], [vi 1, vi 2, vB false, vi 20, vi 25, vi 2, vu 0, vu 0, vi 0, vu 0, vi 0, sn, vi 0, sn, vi 0], z, ⟨_, z, (Or.inl ⟨z, z⟩)⟩, ⟨[vi 1], [vi 2, vB false, vi 20, vi 25, vi 2, vu 0, vu 0, vi 0, vu 0, vi 0, sn, vi 0, sn, vi 0], z, z, ⟨[vi 2], [vB false, vi 20, vi 25, vi 2, vu 0, vu 0, vi 0, vu 0, vi 0, sn, vi 0, sn, vi 0], z, z, ⟨[vB false], [vi 20, vi 25, vi 2, vu 0, vu 0, vi 0, vu 0, vi 0, sn, vi 0, sn, vi 0], z, z, ⟨[vi 20], [vi 25, vi 2, vu 0, vu 0, vi 0, vu 0, vi 0, sn, vi 0, sn, vi 0], z, z, ⟨[vi 25], [vi 2, vu 0, vu 0, vi 0, vu 0, vi 0, sn, vi 0, sn, vi 0], z, z, ⟨[vi 2], [vu 0, vu 0, vi 0, vu 0, vi 0, sn, vi 0, sn, vi 0], z, z, ⟨[vu 0], [vu 0, vi 0, vu 0, vi 0, sn, vi 0, sn, vi 0], z, z, ⟨[vu 0], [vi 0, vu 0, vi 0, sn, vi 0, sn, vi 0], z, z, ⟨hzr, [vi 0], z, ⟨[vi 0], [vu 0, vi 0, sn, vi 0, sn], z, z, ⟨[vu 0], [vi 0, sn, vi 0, sn], z, z, ⟨[vi 0, sn], [vi 0, sn], z, ⟨[vi 0], [sn], z, z, ⟨_, z, (Or.inl ⟨z, z⟩)⟩⟩, ⟨[vi 0], [sn], z, z, ⟨_, z, (Or.inl ⟨z, z⟩)⟩⟩⟩⟩⟩, z⟩⟩⟩⟩⟩⟩⟩⟩⟩⟩⟩, z⟩⟩⟩ z ?_))
 intro ci da cY C bt
 obtain ⟨ah, D, bu⟩ := OwnSl.give rfl bt
 obtain ⟨⟨S, db, ac⟩, bw, h⟩ := bnd h
 refine WL.call (vals := [ci, vi 20]) kok8 z z (c_rollup_Roll (A := imm ah) bu bw) ?_
 rintro cZ bx ⟨p, rfl, bz, cj⟩
 obtain ⟨bi, ai, aj, E⟩ := adoptE ah (fun k => 1) bz
 have q : Sl rep_api_Point bx (imm bi) p S := Sl.adoptI (O := ah) cj (fun _ hk => hk) (fun _ _ => Nat.le_refl _) ai aj
 refine wY (ym z) z (wY (yx z z) z (wY (yx z z) z (wY (yx z z) z (wY (ya z) z (wY (ya z) z (wY (ya z) z (nl (th (sq ?_)))))))))
 refine rg ?_
 have bC := ((af.st C z).st D z).st E z
 refine wY (yL ty33 z z (bC.cells 0 [vs [120], sn, vi 1, vi 2, vB false, vi 10, vi 12, vi 3, vu 0, vu 0, vi 0, vu 0, vi 0, sn, vi 0, sn, vi 0] z) z) z ?_
 have bF := ((ae.st C z).st D z).st E z
 refine wY (yL ty33 z z (bF.cells 0 [vs [120], sn, vi 1, vi 2, vB false, vi 5, vi 10, vi 5, vu 0, vu 0, vi 0, vu 0, vi 0, sn, vi 0, sn, vi 0] z) z) z (WL.buildSlice (O := bi) (R := rep_api_Point) (vals := [(0, Value.agg (List.toArray [vs [120], sn, vi 1, vi 2, vB false, vi 10, vi 12, vi 3, vu 0, vu 0, vi 0, vu 0, vi 0, sn, vi 0, sn, vi 0])), (1, Value.agg (List.toArray [vs [120], sn, vi 1, vi 2, vB false, vi 5, vi 10, vi 5, vu 0, vu 0, vi 0, vu 0, vi 0, sn, vi 0, sn, vi 0]))]) 15 [vs [120], sn, vi 1, vi 2, vB false, vi 10, vi 12, vi 3, vu 0, vu 0, vi 0, vu 0, vi 0, sn, vi 0, sn, vi 0, vs [120], sn, vi 1, vi 2, vB false, vi 5, vi 10, vi 5, vu 0, vu 0, vi 0, vu 0, vi 0, sn, vi 0, sn, vi 0] (xs := [(api_Point.mk [120] [] 1 2 false 10 12 3 0 0 (api_Hist.mk 0 0 (api_Side.mk 0 []) (api_Side.mk 0 [])) 0), (api_Point.mk [120] [] 1 2 false 5 10 5 0 0 (api_Hist.mk 0 0 (api_Side.mk 0 []) (api_Side.mk 0 [])) 0)]) (by decide) ty22 ty33 (by decide) (by decide) (fe_ z) (by kernel_rfl) z ⟨[vs [120], sn, vi 1, vi 2, vB false, vi 10, vi 12, vi 3, vu 0, vu 0, vi 0, vu 0, vi 0, sn, vi 0, sn, vi 0], [vs [120], sn, vi 1, vi 2, vB false, vi 5, vi 10, vi 5, vu 0, vu 0, vi 0, vu 0, vi 0, sn, vi 0, sn, vi 0], z, ⟨[vs [120]], [sn, vi 1, vi 2, vB false, vi 10, vi 12, vi 3, vu 0, vu 0, vi 0, vu 0, vi 0, sn, vi 0, sn, vi 0], z, z, ⟨[sn], [vi 1, vi 2, vB false, vi 10, vi 12, vi 3, vu 0, vu 0, vi 0, vu 0, vi 0, sn, vi 0, sn, vi 0], z, ⟨_, z, (Or.inl ⟨z, z⟩)⟩, ⟨[vi 1], [vi 2, vB false, vi 10, vi 12, vi 3, vu 0, vu 0, vi 0, vu 0, vi 0, sn, vi 0, sn, vi 0], z, z, ⟨[vi 2], [vB false, vi 10, vi 12, vi 3, vu 0, vu 0, vi 0, vu 0, vi 0, sn, vi 0, sn, vi 0], z, z, ⟨[vB false], [vi 10, vi 12, vi 3, vu 0, vu 0, vi 0, vu 0, vi 0, sn, vi 0, sn, vi 0], z, z, ⟨[vi 10], [vi 12, vi 3, vu 0, vu 0, vi 0, vu 0, vi 0, sn, vi 0, sn, vi 0], z, z, ⟨[vi 12], [vi 3, vu 0, vu 0, vi 0, vu 0, vi 0, sn, vi 0, sn, vi 0], z, z, ⟨[vi 3], [vu 0, vu 0, vi 0, vu 0, vi 0, sn, vi 0, sn, vi 0], z, z, ⟨[vu 0], [vu 0, vi 0, vu 0, vi 0, sn, vi 0, sn, vi 0], z, z, ⟨[vu 0], [vi 0, vu 0, vi 0, sn, vi 0, sn, vi 0], z, z, ⟨hzr, [vi 0], z, ⟨[vi 0], [vu 0, vi 0, sn, vi 0, sn], z, z, ⟨[vu 0], [vi 0, sn, vi 0, sn], z, z, ⟨[vi 0, sn], [vi 0, sn], z, ⟨[vi 0], [sn], z, z, ⟨_, z, (Or.inl ⟨z, z⟩)⟩⟩, ⟨[vi 0], [sn], z, z, ⟨_, z, (Or.inl ⟨z, z⟩)⟩⟩⟩⟩⟩, z⟩⟩⟩⟩⟩⟩⟩⟩⟩⟩⟩, ⟨[vs [120], sn, vi 1, vi 2, vB false, vi 5, vi 10, vi 5, vu 0, vu 0, vi 0, vu 0, vi 0, sn, vi 0, sn, vi 0], [], z, ⟨[vs [120]], [sn, vi 1, vi 2, vB false, vi 5, vi 10, vi 5, vu 0, vu 0, vi 0, vu 0, vi 0, sn, vi 0, sn, vi 0], z, z, ⟨[sn], [vi 1, vi 2, vB false, vi 5, vi 10, vi 5, vu 0, vu 0, vi 0, vu 0, vi 0, sn, vi 0, sn, vi 0], z, ⟨_, z, (Or.inl ⟨z, z⟩)⟩, ⟨[vi 1], [vi 2, vB false, vi 5, vi 10, vi 5, vu 0, vu 0, vi 0, vu 0, vi 0, sn, vi 0, sn, vi 0], z, z, ⟨[vi 2], [vB false, vi 5, vi 10, vi 5, vu 0, vu 0, vi 0, vu 0, vi 0, sn, vi 0, sn, vi 0], z, z, ⟨[vB false], [vi 5, vi 10, vi 5, vu 0, vu 0, vi 0, vu 0, vi 0, sn, vi 0, sn, vi 0], z, z, ⟨[vi 5], [vi 10, vi 5, vu 0, vu 0, vi 0, vu 0, vi 0, sn, vi 0, sn, vi 0], z, z, ⟨[vi 10], [vi 5, vu 0, vu 0, vi 0, vu 0, vi 0, sn, vi 0, sn, vi 0], z, z, ⟨[vi 5], [vu 0, vu 0, vi 0, vu 0, vi 0, sn, vi 0, sn, vi 0], z, z, ⟨[vu 0], [vu 0, vi 0, vu 0, vi 0, sn, vi 0, sn, vi 0], z, z, ⟨[vu 0], [vi 0, vu 0, vi 0, sn, vi 0, sn, vi 0], z, z, ⟨hzr, [vi 0], z, ⟨[vi 0], [vu 0, vi 0, sn, vi 0, sn], z, z, ⟨[vu 0], [vi 0, sn, vi 0, sn], z, z, ⟨[vi 0, sn], [vi 0, sn], z, ⟨[vi 0], [sn], z, z, ⟨_, z, (Or.inl ⟨z, z⟩)⟩⟩, ⟨[vi 0], [sn], z, z, ⟨_, z, (Or.inl ⟨z, z⟩)⟩⟩⟩⟩⟩, z⟩⟩⟩⟩⟩⟩⟩⟩⟩⟩⟩, z⟩⟩ z ?_)
 intro ck dc c0 m bG
 obtain ⟨ak, n, bH⟩ := OwnSl.give rfl bG
 obtain ⟨⟨cl, c, d⟩, bI, h⟩ := bnd h
 refine WL.call (vals := [ck, vi 20]) kok8 z z (c_rollup_Roll (A := imm ak) bH bI) ?_
 rintro c1 j ⟨cm, rfl, bJ, cn⟩
 obtain ⟨ad, al, am, o⟩ := adoptE ak (fun k => 1) bJ
 have c2 : Sl rep_api_Point j (imm ad) cm cl := Sl.adoptI (O := ak) cn (fun _ hk => hk) (fun _ _ => Nat.le_refl _) al am
 refine wY (ym z) z (wY (yx z z) z (wY (yx z z) z (wY (yx z z) z (wY (ya z) z (wY (ya z) z (wY (ya z) z (nl (th (sq ?_)))))))))
 refine rg (wY (ym z) z (wY (Y.eql_i z z) z (wY (ym z) z ?_)))
 refine WL.cut 4 (σ := Unit) (fun _ w' => j = w') (fun _ => [(4, p), (8, vi c), (9, vi d), (36, vB ((decide (ac = 0)) && (decide ((S.length : Int) = 2))))]) ?_ ?_
 ·refine WL.part 32 z (fun U => ?_) (fun U => ?_)
  ·refine ug z z (wY (ym z) z (ug z z ?_))
   have bM := ((q.i m z z).i n z z).i o z z
   refine wY (Y.len ty22 z bM) z (ug z z (wY (Y.eql_i z z) z (wY (Y.pick (b := true) z z) z (WL.ren (v' := vB ((decide (ac = 0)) && (decide ((S.length : Int) = 2)))) 36 z (congrArg vB (andT U)) ?_))))
   exact nl (At.join () z (.cons z (.cons z (.cons z (.cons z .nil)))))
  ·refine WL.gS z z z z (WL.gS z z z z (WL.gS z z z z (wY (Y.pick (b := false) z z) z (WL.ren (v' := vB ((decide (ac = 0)) && (decide ((S.length : Int) = 2)))) 36 z (congrArg vB (andF U)) ?_))))
   exact nl (At.join () z (.cons z (.cons z (.cons z (.cons z .nil)))))
 ·rintro _ _ rfl
  refine (show WL _ _ _ _ _ [(4, p), (8, vi c), (9, vi d), (36, vB ((decide (ac = 0)) && (decide ((S.length : Int) = 2))))] _ from ?_)
  refine wY (ym z) z ?_
  obtain ⟨co, h, bO⟩ := bnd h
  refine WL.cut 6 (σ := Bool) (fun x w' => x = co ∧ j = w') (fun x => [(4, p), (8, vi c), (9, vi d), (43, vB x)]) ?_ ?_
  ·rcases cnd h with ⟨V, h⟩ | ⟨V, h⟩
   ·refine WL.ren 37 z (congrArg vB V) (ug z z (wY (ym z) z (ug z z ?_)))
    obtain ⟨an, bP, h⟩ := bnd h
    have aF := ((q.i m z z).i n z z).i o z z
    obtain ⟨c3, cq, cr, cz, aG, aH, aI, F, ao, aJ⟩ := Sl.at2 aF bP
    obtain ⟨_, _, rfl, rfl, ⟨_, _, rfl, ⟨bQ, rfl, cA⟩, ⟨_, _, rfl, rfl, ⟨_, _, rfl, rfl, ⟨_, _, rfl, rfl, ⟨_, _, rfl, rfl, ⟨_, _, rfl, rfl, ⟨_, _, rfl, rfl, ⟨_, _, rfl, rfl, ⟨_, _, rfl, rfl, ⟨_, _, rfl, ⟨_, _, rfl, rfl, ⟨_, _, rfl, rfl, ⟨_, _, rfl, ⟨_, _, rfl, rfl, ⟨bR, rfl, cC⟩⟩, ⟨_, _, rfl, rfl, ⟨bS, rfl, cD⟩⟩⟩⟩⟩, rfl⟩⟩⟩⟩⟩⟩⟩⟩⟩⟩⟩ := ao
    replace F : CellsAt _ _ _ (cp an bQ bR bS) := F
    have ap := CAt.imm F aJ
    refine wY (Y.indexAddr ty22 ty33 z aG z aH aI) z (ug z z (wY (yf fo33_7 z) z (ug z z (wY (yl ty3 z z (ap.at_.sub 7 [vi an.Int_] z)) z (ug z z (wY (Y.eql_i z z) z (wY (Y.pick (b := true) z z) z ?_)))))))
    exact nl (At.join (σ := Bool) (decide (an.Int_ = 8)) ⟨some1 h, z⟩ (.cons z (.cons z (.cons z (.cons z .nil)))))
   ·refine WL.ren 37 z (congrArg vB V) (WL.gS z z z z (WL.gS z z z z (WL.gS z z z z (WL.gS z z z z (WL.gS z z z z (wY (Y.pick (b := false) z z) z ?_))))))
    exact nl (At.join (σ := Bool) false ⟨some1 h, z⟩ (.cons z (.cons z (.cons z (.cons z .nil)))))
  ·rintro cs _ ⟨rfl, rfl⟩
   replace h := bO
   try dsimp only at h
   refine (show WL _ _ _ _ _ [(4, p), (8, vi c), (9, vi d), (43, vB cs)] _ from ?_)
   refine wY (ym z) z ?_
   obtain ⟨bT, h, aK⟩ := bnd h
   refine WL.cut 6 (σ := Bool) (fun x w' => x = bT ∧ j = w') (fun x => [(4, p), (8, vi c), (9, vi d), (50, vB x)]) ?_ ?_
   ·rcases cnd h with ⟨G, h⟩ | ⟨G, h⟩
    ·refine WL.ren 44 z (congrArg vB G) (ug z z (wY (ym z) z (ug z z ?_)))
     obtain ⟨W, aL, h⟩ := bnd h
     have aO := ((q.i m z z).i n z z).i o z z
     obtain ⟨c4, ct, cu, cE, aP, aQ, aR, H, aq, aS⟩ := Sl.at2 aO aL
     obtain ⟨_, _, rfl, rfl, ⟨_, _, rfl, ⟨bU, rfl, cF⟩, ⟨_, _, rfl, rfl, ⟨_, _, rfl, rfl, ⟨_, _, rfl, rfl, ⟨_, _, rfl, rfl, ⟨_, _, rfl, rfl, ⟨_, _, rfl, rfl, ⟨_, _, rfl, rfl, ⟨_, _, rfl, rfl, ⟨_, _, rfl, ⟨_, _, rfl, rfl, ⟨_, _, rfl, rfl, ⟨_, _, rfl, ⟨_, _, rfl, rfl, ⟨bW, rfl, cG⟩⟩, ⟨_, _, rfl, rfl, ⟨bX, rfl, cH⟩⟩⟩⟩⟩, rfl⟩⟩⟩⟩⟩⟩⟩⟩⟩⟩⟩ := aq
     replace H : CellsAt _ _ _ (cp W bU bW bX) := H
     have ar := CAt.imm H aS
     refine wY (Y.indexAddr ty22 ty33 z aP z aQ aR) z (ug z z (wY (yf fo33_5 z) z (ug z z (wY (yl ty3 z z (ar.at_.sub 5 [vi W.Start] z)) z (ug z z (wY (Y.eql_i z z) z (wY (Y.pick (b := true) z z) z ?_)))))))
     exact nl (At.join (σ := Bool) (decide (W.Start = 5)) ⟨some1 h, z⟩ (.cons z (.cons z (.cons z (.cons z .nil)))))
    ·refine WL.ren 44 z (congrArg vB G) (WL.gS z z z z (WL.gS z z z z (WL.gS z z z z (WL.gS z z z z (WL.gS z z z z (wY (Y.pick (b := false) z z) z ?_))))))
     exact nl (At.join (σ := Bool) false ⟨some1 h, z⟩ (.cons z (.cons z (.cons z (.cons z .nil)))))
   ·rintro bY _ ⟨rfl, rfl⟩
    replace h := aK
    try dsimp only at h
    refine (show WL _ _ _ _ _ [(4, p), (8, vi c), (9, vi d), (50, vB bY)] _ from ?_)
    refine wY (ym z) z ?_
    obtain ⟨bZ, h, aT⟩ := bnd h
    refine WL.cut 6 (σ := Bool) (fun x w' => x = bZ ∧ j = w') (fun x => [(4, p), (8, vi c), (9, vi d), (57, vB x)]) ?_ ?_
    ·rcases cnd h with ⟨I, h⟩ | ⟨I, h⟩
     ·refine WL.ren 51 z (congrArg vB I) (ug z z (wY (ym z) z (ug z z ?_)))
      obtain ⟨X, aU, h⟩ := bnd h
      have aY := ((q.i m z z).i n z z).i o z z
      obtain ⟨c5, cv, cw, cI, aZ, a0, a1, J, au, a2⟩ := Sl.at2 aY aU
      obtain ⟨_, _, rfl, rfl, ⟨_, _, rfl, ⟨b0, rfl, cJ⟩, ⟨_, _, rfl, rfl, ⟨_, _, rfl, rfl, ⟨_, _, rfl, rfl, ⟨_, _, rfl, rfl, ⟨_, _, rfl, rfl, ⟨_, _, rfl, rfl, ⟨_, _, rfl, rfl, ⟨_, _, rfl, rfl, ⟨_, _, rfl, ⟨_, _, rfl, rfl, ⟨_, _, rfl, rfl, ⟨_, _, rfl, ⟨_, _, rfl, rfl, ⟨b1, rfl, cK⟩⟩, ⟨_, _, rfl, rfl, ⟨b2, rfl, cL⟩⟩⟩⟩⟩, rfl⟩⟩⟩⟩⟩⟩⟩⟩⟩⟩⟩ := au
      replace J : CellsAt _ _ _ (cp X b0 b1 b2) := J
      have av := CAt.imm J a2
      refine wY (Y.indexAddr ty22 ty33 z aZ z a0 a1) z (ug z z (wY (yf fo33_6 z) z (ug z z (wY (yl ty3 z z (av.at_.sub 6 [vi X.Time] z)) z (ug z z (wY (Y.eql_i z z) z (wY (Y.pick (b := true) z z) z ?_)))))))
      exact nl (At.join (σ := Bool) (decide (X.Time = 12)) ⟨some1 h, z⟩ (.cons z (.cons z (.cons z (.cons z .nil)))))
     ·refine WL.ren 51 z (congrArg vB I) (WL.gS z z z z (WL.gS z z z z (WL.gS z z z z (WL.gS z z z z (WL.gS z z z z (wY (Y.pick (b := false) z z) z ?_))))))
      exact nl (At.join (σ := Bool) false ⟨some1 h, z⟩ (.cons z (.cons z (.cons z (.cons z .nil)))))
    ·rintro b3 _ ⟨rfl, rfl⟩
     replace h := aT
     try dsimp only at h
     refine (show WL _ _ _ _ _ [(4, p), (8, vi c), (9, vi d), (57, vB b3)] _ from ?_)
     refine wY (ym z) z ?_
     obtain ⟨b4, h, a3⟩ := bnd h
     refine WL.cut 6 (σ := Bool) (fun x w' => x = b4 ∧ j = w') (fun x => [(8, vi c), (9, vi d), (64, vB x)]) ?_ ?_
     ·rcases cnd h with ⟨K, h⟩ | ⟨K, h⟩
      ·refine WL.ren 58 z (congrArg vB K) (ug z z (wY (ym z) z (ug z z ?_)))
       obtain ⟨Z, a4, h⟩ := bnd h
       have a7 := ((q.i m z z).i n z z).i o z z
       obtain ⟨c6, cx, cy, cM, a8, a9, ba, L, ax, bb⟩ := Sl.at2 a7 a4
       obtain ⟨_, _, rfl, rfl, ⟨_, _, rfl, ⟨b5, rfl, cN⟩, ⟨_, _, rfl, rfl, ⟨_, _, rfl, rfl, ⟨_, _, rfl, rfl, ⟨_, _, rfl, rfl, ⟨_, _, rfl, rfl, ⟨_, _, rfl, rfl, ⟨_, _, rfl, rfl, ⟨_, _, rfl, rfl, ⟨_, _, rfl, ⟨_, _, rfl, rfl, ⟨_, _, rfl, rfl, ⟨_, _, rfl, ⟨_, _, rfl, rfl, ⟨b6, rfl, cO⟩⟩, ⟨_, _, rfl, rfl, ⟨b7, rfl, cP⟩⟩⟩⟩⟩, rfl⟩⟩⟩⟩⟩⟩⟩⟩⟩⟩⟩ := ax
       replace L : CellsAt _ _ _ (cp Z b5 b6 b7) := L
       have ay := CAt.imm L bb
       refine wY (Y.indexAddr ty22 ty33 z a8 z a9 ba) z (ug z z (wY (yf fo33_7 z) z (ug z z (wY (yl ty3 z z (ay.at_.sub 7 [vi Z.Int_] z)) z (ug z z (wY (Y.eql_i z z) z (wY (Y.pick (b := true) z z) z ?_)))))))
       exact nl (At.join (σ := Bool) (decide (Z.Int_ = 2)) ⟨some1 h, z⟩ (.cons z (.cons z (.cons z .nil))))
      ·refine WL.ren 58 z (congrArg vB K) (WL.gS z z z z (WL.gS z z z z (WL.gS z z z z (WL.gS z z z z (WL.gS z z z z (wY (Y.pick (b := false) z z) z ?_))))))
       exact nl (At.join (σ := Bool) false ⟨some1 h, z⟩ (.cons z (.cons z (.cons z .nil))))
     ·rintro l _ ⟨rfl, rfl⟩
      replace h := a3
      try dsimp only at h
      refine (show WL _ _ _ _ _ [(8, vi c), (9, vi d), (64, vB l)] _ from ?_)
      refine wY (ym z) z ?_
      refine WL.cut 3 (σ := Unit) (fun _ w' => j = w') (fun _ => [(9, vi d), (68, vB (l && (decide (c = 1))))]) ?_ ?_
      ·refine WL.part 65 z (fun M => ?_) (fun M => ?_)
       ·refine ug z z (wY (ym z) z (ug z z (wY (Y.eql_i z z) z (wY (Y.pick (b := true) z z) z (WL.ren (v' := vB (l && (decide (c = 1)))) 68 z (congrArg vB (andT M)) ?_)))))
        exact nl (At.join () z (.cons z (.cons z .nil)))
       ·refine WL.gS z z z z (WL.gS z z z z (wY (Y.pick (b := false) z z) z (WL.ren (v' := vB (l && (decide (c = 1)))) 68 z (congrArg vB (andF M)) ?_)))
        exact nl (At.join () z (.cons z (.cons z .nil)))
      ·rintro _ _ rfl
       refine (show WL _ _ _ _ _ [(9, vi d), (68, vB (l && (decide (c = 1))))] _ from ?_)
       refine wY (ym z) z ?_
       refine WL.cut 3 (σ := Unit) (fun _ w' => j = w') (fun _ => [(72, vB ((l && (decide (c = 1))) && (decide (d = 9))))]) ?_ ?_
       ·refine WL.part 69 z (fun P => ?_) (fun P => ?_)
        ·refine ug z z (wY (ym z) z (ug z z (wY (Y.eql_i z z) z (wY (Y.pick (b := true) z z) z (WL.ren (v' := vB ((l && (decide (c = 1))) && (decide (d = 9)))) 72 z (congrArg vB (andT P)) ?_)))))
         exact nl (At.join () z (.cons z .nil))
        ·refine WL.gS z z z z (WL.gS z z z z (wY (Y.pick (b := false) z z) z (WL.ren (v' := vB ((l && (decide (c = 1))) && (decide (d = 9)))) 72 z (congrArg vB (andF P)) ?_)))
         exact nl (At.join () z (.cons z .nil))
       ·rintro _ _ rfl
        refine (show WL _ _ _ _ _ [(72, vB ((l && (decide (c = 1))) && (decide (d = 9))))] _ from ?_)
        refine wY (ym z) z ?_
        obtain ⟨b8, h, bc⟩ := bnd h
        refine WL.cut 3 (σ := (Bool × Own)) (fun x w' => x.1 = b8 ∧ Stp [] ad j x.2 w') (fun x => [(76, vB x.1)]) ?_ ?_
        ·rcases cnd h with ⟨Q, h⟩ | ⟨Q, h⟩
         ·refine WL.ren 73 z (congrArg vB Q) (ug z z ?_)
          obtain ⟨b9, bd, h⟩ := bnd h
          refine WL.call (vals := [vi 12, vi 5]) kok17 z z (c_rollup_Window bd) ?_
          rintro cQ cR ⟨rfl, bf⟩
          obtain ⟨ca, cd, ce, az⟩ := adoptE ad (fun k => 1) bf
          refine ug z z (wY (Y.eql_i z z) z (wY (Y.pick (b := true) z z) z ?_))
          exact nl (At.join (σ := (Bool × Own)) (decide (b9 = 2), ca) ⟨some1 h, (su_ az z)⟩ (.cons z .nil))
         ·refine WL.ren 73 z (congrArg vB Q) (WL.gS z z z z (WL.gS z z z z (wY (Y.pick (b := false) z z) z ?_)))
          exact nl (At.join (σ := (Bool × Own)) (false, ad) ⟨some1 h, (sr_ _ _ _)⟩ (.cons z .nil))
        ·rintro ⟨cb, cc⟩ bg ⟨rfl, T⟩
         replace h := bc
         try dsimp only at h T
         refine (show WL _ _ _ _ _ [(76, vB cb)] _ from ?_)
         refine wY (ya z) z (nl (th (rt ?_)))
         obtain rfl := some1 h
         have bh : Stp [11, 12, 13, 14, 15] (Lg.O0 (fun _ => False)) w cc bg := (tr_ (su_ aA z) (tr_ (su_ aC z) (tr_ (su_ aa z) (tr_ (su_ ab z) (tr_ (su_ r z) (tr_ (su_ t z) (tr_ (su_ C z) (tr_ (su_ D z) (tr_ (su_ E z) (tr_ (su_ m z) (tr_ (su_ n z) (tr_ (su_ o z) (su_ T z)))))))))))))
         exact At.res (.inl z) z (.tmp z .nil) ⟨z, (se_ bh z z)⟩
theorem c_ref11_Light {A : Nat → Prop} {a0 : List api_Pair} {v0 : Value} {w : World} (hs0 : Sl rep_api_Pair w A v0 a0) {r0 : Bool} (h : ref11_Light a0 = some r0) : Rets Try.prog 35 [v0] w (fun v w' => v = vB r0 ∧ Ext w w') := by
 unfold ref11_Light at h
 refine Rets.enter Try.func35 z z ?_
 have c : Sl rep_api_Pair w (imm (Lg.O0 A)) v0 a0 := (Sl.start hs0)
 refine (show WC _ _ _ _ [(0, v0)] _ from ?_)
 refine sq (rg (wY (ya z) z (nl (th (sq (sq (rg (wY (ym z) z (wY (Y.len ty25 z c) z ?_)))))))))
 refine wY (Y.gtr_i z z) z (nl (th ?_))
 rcases cnd h with ⟨d, h⟩ | ⟨d, h⟩
 ·refine WC.condT' z d (sq (rg (wY (ya z) z (nl (th (rt (At.thenR ?_)))))))
  obtain rfl := some1 h
  have J : Stp [] (Lg.O0 A) w (Lg.O0 A) w := (sr_ _ _ _)
  exact At.res (.inl z) z (.tmp z .nil) ⟨z, (se_ J z z)⟩
 ·refine WC.condF' z d (sk (th (sq (sq (rg (wY (ya z) z (nl (th (WC.block ?_)))))))))
  obtain ⟨H, h, r⟩ := flow1 h
  obtain ⟨I, h⟩ := loop_some h
  refine WC.joinB 0 (σ := Unit) (fun x w' => H = .go () ∧ w = w') (fun x => []) ?_ ?_
  ·refine WC.loop (σ := Int) (fun x k w' => loopN k (ref11_Light_lp1 a0) x = some H ∧ w = w') (fun x => [(0, v0), (3, vi x)]) 0 I (.cons z (.cons z .nil)) ⟨h, z⟩ ?_
   rintro t I _ ⟨h, rfl⟩
   obtain ⟨ac, an, rfl, h, j⟩ := rnd1 h
   unfold ref11_Light_lp1 at h
   try dsimp only at h
   refine (show WC _ _ _ _ [(0, v0), (3, vi t)] _ from ?_)
   refine sq (sq (rg (wY (ym z) z (wY (ym z) z (wY (Y.len ty25 z c) z (wY (Y.lss_i z z) z (nl (th ?_))))))))
   rcases cnd h with ⟨l, h⟩ | ⟨l, h⟩
   ·refine WC.condT' z l (sk (th (sq (WC.block (sq (rg (wY (ym z) z (wY (ym z) z ?_))))))))
    obtain ⟨C, K, h⟩ := bnd h
    obtain ⟨ao, ah, ai, al, L, M, P, m, D, Q⟩ := Sl.at2 c K
    obtain ⟨_, _, rfl, rfl, rfl⟩ := D
    replace m : CellsAt _ _ _ [vs C.Key, vs C.Val] := m
    have E := CAt.imm m Q
    refine wY (Y.indexAddr ty25 ty65 z L z M P) z (wY (yf fo65_0 z) z (wY (yl ty9 z z (E.at_.sub 0 [vs C.Key] z)) z (wY (Y.len_s ty9 z) z (wY (Y.gtr_i z z) z (wY (ym z) z ?_)))))
    obtain ⟨ad, h, S⟩ := bnd h
    refine WL.cut 8 (σ := Bool) (fun x w' => x = ad ∧ w = w') (fun x => [(0, v0), (3, vi t), (28, vB x)]) ?_ ?_
    ·rcases cnd h with ⟨n, h⟩ | ⟨n, h⟩
     ·refine WL.ren 20 z (congrArg vB n) (WL.gS z z z z (WL.gS z z z z (WL.gS z z z z (WL.gS z z z z (WL.gS z z z z (WL.gS z z z z (WL.gS z z z z (wY (Y.pick (b := true) z z) z ?_))))))))
      exact nl (At.join (σ := Bool) true ⟨some1 h, z⟩ (.cons z (.cons z (.cons z .nil))))
     ·refine WL.ren 20 z (congrArg vB n) (ug z z (wY (ym z) z (ug z z (wY (ym z) z (ug z z ?_)))))
      obtain ⟨q, T, h⟩ := bnd h
      obtain ⟨ap, aj, ak, am, U, V, W, o, F, X⟩ := Sl.at2 c T
      obtain ⟨_, _, rfl, rfl, rfl⟩ := F
      replace o : CellsAt _ _ _ [vs q.Key, vs q.Val] := o
      have G := CAt.imm o X
      refine wY (Y.indexAddr ty25 ty65 z U z V W) z (ug z z (wY (yf fo65_1 z) z (ug z z (wY (yl ty9 z z (G.at_.sub 1 [vs q.Val] z)) z (ug z z (wY (Y.len_s ty9 z) z (ug z z (wY (Y.gtr_i z z) z (wY (Y.pick (b := false) z z) z ?_)))))))))
      exact nl (At.join (σ := Bool) (decide (100 < (q.Val.length : Int))) ⟨some1 h, z⟩ (.cons z (.cons z (.cons z .nil))))
    ·rintro ae _ ⟨rfl, rfl⟩
     replace h := S
     try dsimp only at h
     refine (show WL _ _ _ _ _ [(0, v0), (3, vi t), (28, vB ae)] _ from ?_)
     refine nl (th ?_)
     rcases cnd h with ⟨p, h⟩ | ⟨p, h⟩
     ·refine WC.condT' z p (sq (rg (wY (ya z) z (nl (th (rt (At.inBlockR (At.thenR (At.loopR ?_)))))))))
      have h := outr1 h j r
      refine At.joinBR (At.inBlockR (At.thenR ?_))
      obtain rfl := some1 h
      have Z : Stp [] (Lg.O0 A) w (Lg.O0 A) w := (sr_ _ _ _)
      exact At.res (.inl z) z (.tmp z .nil) ⟨z, (se_ Z z z)⟩
     ·refine WC.condF' z p (sk (At.inBlock (th (rg (wY (ym z) z (wY (Y.add_i z z) z ?_))))))
      obtain ⟨af, aa, h⟩ := lt1 h
      refine WL.yE (ya z) (congrArg vi aa.symm) z (nl ?_)
      exact At.round af ac (Nat.lt_succ_self _) ⟨next1 h j, z⟩ (.cons z (.cons z .nil))
   ·refine WC.condF' z l (WC.exit (At.thenX (At.loopX ?_)))
    exact At.hitB (σ := Unit) () ⟨brk1 h j, z⟩ .nil
  ·rintro _ _ ⟨rfl, rfl⟩
   replace h := flowK_go r
   refine (show At _ _ _ [] _ from ?_)
   refine At.inBlockHit (th (sq (rg (wY (ya z) z (nl (th (rt ?_)))))))
   obtain rfl := some1 h
   have ab : Stp [] (Lg.O0 A) w (Lg.O0 A) w := (sr_ _ _ _)
   exact At.res (.inl z) z (.tmp z .nil) ⟨z, (se_ ab z z)⟩
theorem c_ref08_Light {A : Nat → Prop} {v0_3 : Value} {v0_5 : Value} {a0 : api_Hist} {w : World} (hs0_3 : Sl Rep.u w A v0_3 a0.Pos.Counts) (hs0_5 : Sl Rep.u w A v0_5 a0.Neg.Counts) {r0 : Bool} (h : ref08_Light a0 = some r0) : Rets Try.prog 36 [ag (hl a0 v0_3 v0_5)] w (fun v w' => v = vB r0 ∧ Ext w w') := by
 unfold ref08_Light at h
 refine Rets.enter Try.func36 z z ?_
 have j : Sl Rep.u w (imm (Lg.O0 A)) v0_3 a0.Pos.Counts := (Sl.start hs0_3)
 have l : Sl Rep.u w (imm (Lg.O0 A)) v0_5 a0.Neg.Counts := (Sl.start hs0_5)
 refine (show WC _ _ _ _ [(0, ag (hl a0 v0_3 v0_5))] _ from ?_)
 refine sq (rg ?_)
 have o := h
 obtain ⟨D, E, F, rfl⟩ := j.shape
 have h := o
 have p := h
 obtain ⟨G, H, I, rfl⟩ := l.shape
 have h := p
 refine WL.box (O := (Lg.O0 A)) 11 (hl a0 (vl D E F) (vl G H I)) z z z ?_
 intro K J m c n
 refine wY (ya z) z (nl (th (sq (rg (wY (yf fo31_2 z) z (wY (yf fo29_1 z) z (wY (yl ty27 z z (n.cell 3 _ z)) z ?_)))))))
 have q := j.i c z z
 refine wY (Y.len ty27 z q) z (wY (Y.leq_i z z) z (wY (ym z) z ?_))
 refine WL.cut 6 (σ := Unit) (fun _ w' => m = w') (fun _ => [(14, vB ((decide ((a0.Pos.Counts.length : Int) ≤ 300)) && (decide ((a0.Neg.Counts.length : Int) ≤ 300))))]) ?_ ?_
 ·refine WL.part 8 z (fun d => ?_) (fun d => ?_)
  ·refine ug z z (wY (yf fo31_3 z) z (ug z z (wY (yf fo29_1 z) z (ug z z (wY (yl ty27 z z (n.cell 5 _ z)) z (ug z z ?_))))))
   have r := l.i c z z
   refine wY (Y.len ty27 z r) z (ug z z (wY (Y.leq_i z z) z (wY (Y.pick (b := true) z z) z (WL.ren (v' := vB ((decide ((a0.Pos.Counts.length : Int) ≤ 300)) && (decide ((a0.Neg.Counts.length : Int) ≤ 300)))) 14 z (congrArg vB (andT d)) ?_))))
   exact nl (At.join () z (.cons z .nil))
  ·refine WL.gS z z z z (WL.gS z z z z (WL.gS z z z z (WL.gS z z z z (WL.gS z z z z (wY (Y.pick (b := false) z z) z (WL.ren (v' := vB ((decide ((a0.Pos.Counts.length : Int) ≤ 300)) && (decide ((a0.Neg.Counts.length : Int) ≤ 300)))) 14 z (congrArg vB (andF d)) ?_))))))
   exact nl (At.join () z (.cons z .nil))
 ·rintro _ _ rfl
  refine (show WL _ _ _ _ _ [(14, vB ((decide ((a0.Pos.Counts.length : Int) ≤ 300)) && (decide ((a0.Neg.Counts.length : Int) ≤ 300))))] _ from ?_)
  obtain ⟨L, t, h⟩ := lt1 h
  refine WL.yE (ya z) (congrArg vB t.symm) z (nl (th (rt ?_)))
  obtain rfl := some1 h
  have C : Stp [] (Lg.O0 A) w J m := (su_ c z)
  exact At.res (.inl z) z (.tmp z .nil) ⟨z, (se_ C z z)⟩
theorem c_ref12_Light {A : Nat → Prop} {v0_1 : Value} {v0_13 : Value} {v0_15 : Value} {a0 : api_Point} {w : World} (hs0_1 : Sl rep_api_Pair w A v0_1 a0.Attrs) (hs0_13 : Sl Rep.u w A v0_13 a0.Hist.Pos.Counts) (hs0_15 : Sl Rep.u w A v0_15 a0.Hist.Neg.Counts) {r0 : Bool} (h : ref12_Light a0 = some r0) : Rets Try.prog 18 [ag (cp a0 v0_1 v0_13 v0_15)] w (fun v w' => v = vB r0 ∧ Ext w w') := by
 unfold ref12_Light at h
 refine Rets.enter Try.func18 z z ?_
 have o : Sl rep_api_Pair w (imm (Lg.O0 A)) v0_1 a0.Attrs := (Sl.start hs0_1)
 have p : Sl Rep.u w (imm (Lg.O0 A)) v0_13 a0.Hist.Pos.Counts := (Sl.start hs0_13)
 have q : Sl Rep.u w (imm (Lg.O0 A)) v0_15 a0.Hist.Neg.Counts := (Sl.start hs0_15)
 refine (show WC _ _ _ _ [(0, ag (cp a0 v0_1 v0_13 v0_15))] _ from ?_)
 refine sq (rg ?_)
 have Q := h
 obtain ⟨K, L, M, rfl⟩ := o.shape
 have h := Q
 have S := h
 obtain ⟨r, t, C, rfl⟩ := p.shape
 have h := S
 have T := h
 obtain ⟨D, E, F, rfl⟩ := q.shape
 have h := T
 refine WL.box (O := (Lg.O0 A)) 11 (cp a0 (vl K L M) (vl r t C) (vl D E F)) z z z ?_
 intro P G U d j
 refine wY (ya z) z (nl (th (sq (rg (wY (yf fo33_0 z) z (wY (yl ty9 z z (j.cell 0 _ z)) z (wY (Y.len_s ty9 z) z (wY (Y.leq_i z z) z (wY (ym z) z ?_)))))))))
 obtain ⟨am, h, V⟩ := bnd h
 refine WL.cut 4 (σ := (Bool × Own)) (fun x w' => x.1 = am ∧ Stp [] G U x.2 w') (fun x => [(1, pt P 0), (11, vB x.1)]) ?_ ?_
 ·rcases cnd h with ⟨l, h⟩ | ⟨l, h⟩
  ·refine WL.ren 7 z (congrArg vB l) (ug z z (wY (yf fo33_1 z) z (ug z z (wY (yl ty25 z z (j.cell 1 _ z)) z (ug z z ?_)))))
   have W := o.i d z z
   obtain ⟨an, X, h⟩ := bnd h
   refine WL.call (vals := [(vl K L M)]) kok35 z z (c_ref11_Light (A := fun _ => True) (Sl.all W) X) ?_
   rintro aD aE ⟨rfl, Z⟩
   obtain ⟨ao, ap, aq, I⟩ := adoptE G (fun k => 1) Z
   refine wY (Y.pick (b := true) z z) z ?_
   exact nl (At.join (σ := (Bool × Own)) (an, ao) ⟨some1 h, (su_ I z)⟩ (.cons z (.cons z .nil)))
  ·refine WL.ren 7 z (congrArg vB l) (WL.gS z z z z (WL.gS z z z z (WL.gS z z z z (wY (Y.pick (b := false) z z) z ?_))))
   exact nl (At.join (σ := (Bool × Own)) (false, G) ⟨some1 h, (sr_ _ _ _)⟩ (.cons z (.cons z .nil)))
 ·rintro ⟨ar, H⟩ aa ⟨rfl, c⟩
  replace h := V
  try dsimp only at h c
  refine (show WL _ _ _ _ _ [(1, pt P 0), (11, vB ar)] _ from ?_)
  refine wY (ym z) z ?_
  obtain ⟨au, h, ab⟩ := bnd h
  refine WL.cut 4 (σ := (Bool × Own)) (fun x w' => x.1 = au ∧ Stp [] H aa x.2 w') (fun x => [(16, vB x.1)]) ?_ ?_
  ·rcases cnd h with ⟨m, h⟩ | ⟨m, h⟩
   ·refine WL.ren 12 z (congrArg vB m) (ug z z (wY (yf fo33_10 z) z (ug z z ?_)))
    have ac := j.st c z
    refine wY (yL ty31 z z (ac.cells 10 (hl a0.Hist (vl r t C) (vl D E F)) z) z) z (ug z z ?_)
    have ae := (p.i d z z).i c z z
    have ah := (q.i d z z).i c z z
    obtain ⟨av, ai, h⟩ := bnd h
    refine WL.call (vals := [ag (hl a0.Hist (vl r t C) (vl D E F))]) kok36 z z (c_ref08_Light (A := fun _ => True) (a0 := a0.Hist) (Sl.all ae) (Sl.all ah) ai) ?_
    rintro aF aG ⟨rfl, aj⟩
    obtain ⟨ax, ay, az, J⟩ := adoptE H (fun k => 1) aj
    refine wY (Y.pick (b := true) z z) z ?_
    exact nl (At.join (σ := (Bool × Own)) (av, ax) ⟨some1 h, (su_ J z)⟩ (.cons z .nil))
   ·refine WL.ren 12 z (congrArg vB m) (WL.gS z z z z (WL.gS z z z z (WL.gS z z z z (wY (Y.pick (b := false) z z) z ?_))))
    exact nl (At.join (σ := (Bool × Own)) (false, H) ⟨some1 h, (sr_ _ _ _)⟩ (.cons z .nil))
  ·rintro ⟨aA, aC⟩ ak ⟨rfl, n⟩
   replace h := ab
   try dsimp only at h n
   refine (show WL _ _ _ _ _ [(16, vB aA)] _ from ?_)
   refine wY (ya z) z (nl (th (rt ?_)))
   obtain rfl := some1 h
   have al : Stp [] (Lg.O0 A) w aC ak := (tr_ (su_ d z) (tr_ (su_ c z) (su_ n z)))
   exact At.res (.inl z) z (.tmp z .nil) ⟨z, (se_ al z z)⟩
theorem c_ref12_Some {A : Nat → Prop} {a0 : List api_Point} {v0 : Value} {a1 : Int} {w : World} (hs0 : Sl rep_api_Point w A v0 a0) {r0 : Bool} (h : ref12_Some a0 a1 = some r0) : Rets Try.prog 7 [v0, vi a1] w (fun v w' => v = vB r0 ∧ Ext w w') := by
 unfold ref12_Some at h
 refine Rets.enter Try.func7 z z ?_
 have p : Sl rep_api_Point w (imm (Lg.O0 A)) v0 a0 := (Sl.start hs0)
 refine (show WC _ _ _ _ [(0, v0), (1, vi a1)] _ from ?_)
 refine sq (rg (wY (ya z) z (nl (th (sq (sq (rg (wY (ym z) z (wY (Y.len ty22 z p) z ?_)))))))))
 refine wY (ym z) z (wY (Y.gtr_i z z) z (nl (th ?_)))
 rcases cnd h with ⟨d, h⟩ | ⟨d, h⟩
 ·refine WC.condT' z d (sq (rg (wY (ya z) z (nl (th (rt (At.thenR ?_)))))))
  obtain rfl := some1 h
  have M : Stp [] (Lg.O0 A) w (Lg.O0 A) w := (sr_ _ _ _)
  exact At.res (.inl z) z (.tmp z .nil) ⟨z, (se_ M z z)⟩
 ·refine WC.condF' z d (sk (th (sq (sq (rg (wY (ya z) z (nl (th (WC.block ?_)))))))))
  obtain ⟨F, h, q⟩ := flow1 h
  obtain ⟨G, h⟩ := loop_some h
  refine WC.joinB 0 (σ := Own) (fun x w' => F = .go () ∧ Stp [] (Lg.O0 A) w x w') (fun x => []) ?_ ?_
  ·refine WC.loop (σ := (Int × Own)) (fun x k w' => loopN k (ref12_Some_lp1 a0) x.1 = some F ∧ Stp [] (Lg.O0 A) w x.2 w') (fun x => [(0, v0), (5, vi x.1)]) (0, (Lg.O0 A)) G (.cons z (.cons z .nil)) ⟨h, (sr_ _ _ _)⟩ ?_
   rintro ⟨ah, H⟩ G ap ⟨h, c⟩
   obtain ⟨ai, au, rfl, h, j⟩ := rnd1 h
   unfold ref12_Some_lp1 at h
   try dsimp only at h c
   refine (show WC _ _ _ _ [(0, v0), (5, vi ah)] _ from ?_)
   refine sq (sq (rg (wY (ym z) z (wY (ym z) z ?_))))
   have r := p.i c z z
   refine wY (Y.len ty22 z r) z (wY (Y.lss_i z z) z (nl (th ?_)))
   rcases cnd h with ⟨l, h⟩ | ⟨l, h⟩
   ·refine WC.condT' z l (sk (th (sq (WC.block (sq (rg (wY (ym z) z (wY (ym z) z ?_))))))))
    obtain ⟨t, P, h⟩ := bnd h
    obtain ⟨av, an, ao, aq, Q, S, T, m, C, U⟩ := Sl.at2 r P
    obtain ⟨_, _, rfl, rfl, ⟨_, _, rfl, ⟨I, rfl, V⟩, ⟨_, _, rfl, rfl, ⟨_, _, rfl, rfl, ⟨_, _, rfl, rfl, ⟨_, _, rfl, rfl, ⟨_, _, rfl, rfl, ⟨_, _, rfl, rfl, ⟨_, _, rfl, rfl, ⟨_, _, rfl, rfl, ⟨_, _, rfl, ⟨_, _, rfl, rfl, ⟨_, _, rfl, rfl, ⟨_, _, rfl, ⟨_, _, rfl, rfl, ⟨J, rfl, W⟩⟩, ⟨_, _, rfl, rfl, ⟨K, rfl, X⟩⟩⟩⟩⟩, rfl⟩⟩⟩⟩⟩⟩⟩⟩⟩⟩⟩ := C
    replace m : CellsAt _ _ _ (cp t I J K) := m
    have D := CAt.imm m U
    refine wY (Y.indexAddr ty22 ty33 z Q z S T) z (wY (yL ty33 z z D.at_ z) z ?_)
    obtain ⟨ax, Z, h⟩ := bnd h
    refine WL.call (vals := [ag (cp t I J K)]) kok18 z z (c_ref12_Light (A := fun _ => True) (a0 := t) (Sl.all V) (Sl.all W) (Sl.all X) Z) ?_
    rintro ar aa ⟨rfl, ab⟩
    obtain ⟨L, aj, ak, o⟩ := adoptE H (fun k => 1) ab
    refine wY (Y.not z) z (nl (th ?_))
    rcases cnd h with ⟨n, h⟩ | ⟨n, h⟩
    ·refine WC.condT' z n (sq (rg (wY (ya z) z (nl (th (rt (At.inBlockR (At.thenR (At.loopR ?_)))))))))
     have h := outr1 h j q
     refine At.joinBR (At.inBlockR (At.thenR ?_))
     obtain rfl := some1 h
     have ac : Stp [] (Lg.O0 A) w L aa := (tr_ (su_ c z) (su_ o z))
     exact At.res (.inl z) z (.tmp z .nil) ⟨z, (se_ ac z z)⟩
    ·refine WC.condF' z n (sk (At.inBlock (th (rg (wY (ym z) z (wY (Y.add_i z z) z ?_))))))
     obtain ⟨al, ad, h⟩ := lt1 h
     refine WL.yE (ya z) (congrArg vi ad.symm) z (nl ?_)
     exact At.round (al, L) ai (Nat.lt_succ_self _) ⟨next1 h j, (tr_ (su_ c z) (su_ o z))⟩ (.cons z (.cons z .nil))
   ·refine WC.condF' z l (WC.exit (At.thenX (At.loopX ?_)))
    exact At.hitB (σ := Own) H ⟨brk1 h j, (su_ c z)⟩ .nil
  ·rintro am ae ⟨rfl, E⟩
   replace h := flowK_go q
   refine (show At _ _ _ [] _ from ?_)
   refine At.inBlockHit (th (sq (rg (wY (ya z) z (nl (th (rt ?_)))))))
   obtain rfl := some1 h
   have af : Stp [] (Lg.O0 A) w am ae := (su_ E z)
   exact At.res (.inl z) z (.tmp z .nil) ⟨z, (se_ af z z)⟩
theorem c_ref11_Same {A : Nat → Prop} {a0 : List api_Pair} {v0 : Value} {a1 : List api_Pair} {v1 : Value} {w : World} (hs0 : Sl rep_api_Pair w A v0 a0) (hs1 : Sl rep_api_Pair w A v1 a1) {r0 : Bool} (h : ref11_Same a0 a1 = some r0) : Rets Try.prog 48 [v0, v1] w (fun v w' => v = vB r0 ∧ Ext w w') := by
 unfold ref11_Same at h
 refine Rets.enter Try.func48 z z ?_
 have C : Sl rep_api_Pair w (imm (Lg.O0 A)) v0 a0 := (Sl.start hs0)
 have D : Sl rep_api_Pair w (imm (Lg.O0 A)) v1 a1 := (Sl.start hs1)
 refine (show WC _ _ _ _ [(0, v0), (1, v1)] _ from ?_)
 refine sq (rg (wY (ya z) z (nl (th (sq (sq (rg (wY (ym z) z (wY (Y.len ty25 z C) z ?_)))))))))
 refine wY (ym z) z (wY (Y.len ty25 z D) z (wY (Y.neq_i z z) z (nl (th ?_))))
 rcases cnd h with ⟨j, h⟩ | ⟨j, h⟩
 ·refine WC.condT' z j (sq (rg (wY (ya z) z (nl (th (rt (At.thenR ?_)))))))
  obtain rfl := some1 h
  have P : Stp [] (Lg.O0 A) w (Lg.O0 A) w := (sr_ _ _ _)
  exact At.res (.inl z) z (.tmp z .nil) ⟨z, (se_ P z z)⟩
 ·refine WC.condF' z j (sk (th (sq (sq (rg (wY (ya z) z (nl (th (WC.block ?_)))))))))
  obtain ⟨L, h, E⟩ := flow1 h
  obtain ⟨M, h⟩ := loop_some h
  refine WC.joinB 0 (σ := Own) (fun x w' => L = .go () ∧ Stp [] (Lg.O0 A) w x w') (fun x => []) ?_ ?_
  ·refine WC.loop (σ := (Int × Own)) (fun x k w' => loopN k (ref11_Same_lp1 a0 a1) x.1 = some L ∧ Stp [] (Lg.O0 A) w x.2 w') (fun x => [(0, v0), (1, v1), (5, vi x.1)]) (0, (Lg.O0 A)) M (.cons z (.cons z (.cons z .nil))) ⟨h, (sr_ _ _ _)⟩ ?_
   rintro ⟨al, q⟩ M av ⟨h, c⟩
   obtain ⟨am, az, rfl, h, l⟩ := rnd1 h
   unfold ref11_Same_lp1 at h
   try dsimp only at h c
   refine (show WC _ _ _ _ [(0, v0), (1, v1), (5, vi al)] _ from ?_)
   refine sq (sq (rg (wY (ym z) z (wY (ym z) z ?_))))
   have F := C.i c z z
   refine wY (Y.len ty25 z F) z (wY (Y.lss_i z z) z (nl (th ?_)))
   rcases cnd h with ⟨m, h⟩ | ⟨m, h⟩
   ·refine WC.condT' z m (sk (th (sq (WC.block (sq (WC.draw 8 q fmix (by kernel_rfl) ?_))))))
    intro Q d
    refine WS.y (ym z) z (WS.y (ym z) z ?_)
    obtain ⟨r, S, h⟩ := bnd h
    have T := F.i d z z
    obtain ⟨aA, ap, aq, ax, U, V, W, n, G, X⟩ := Sl.at2 T S
    obtain ⟨_, _, rfl, rfl, rfl⟩ := G
    replace n : CellsAt _ _ _ [vs r.Key, vs r.Val] := n
    have H := CAt.imm n X
    refine WS.y (Y.indexAddr ty25 ty65 z U z V W) z (WS.y (yL ty65 z z H.at_ z) z (WS.y (ym z) z (WS.y (ym z) z ?_)))
    obtain ⟨t, Z, h⟩ := bnd h
    have ab := (D.i c z z).i d z z
    obtain ⟨aC, ar, au, ay, ac, ad, ae, o, I, af⟩ := Sl.at2 ab Z
    obtain ⟨_, _, rfl, rfl, rfl⟩ := I
    replace o : CellsAt _ _ _ [vs t.Key, vs t.Val] := o
    have J := CAt.imm o af
    refine WS.y (Y.indexAddr ty25 ty65 z ac z ad ae) z (WS.y (yL ty65 z z J.at_ z) z (WS.tail (wY (Y.neq_ag agok65 z z (EqF.cons (by decide) (fun w => run_part_plain w (by kernel_rfl) z) (fun w => run_part_plain w (by kernel_rfl) z) (EqV.s (a := r.Key) (b := t.Key) ty9.u) (EqF.cons (by decide) (fun w => run_part_plain w (by kernel_rfl) z) (fun w => run_part_plain w (by kernel_rfl) z) (EqV.s (a := r.Val) (b := t.Val) ty9.u) EqF.nil))) z (nl (th ?_)))))
    rcases cnd h with ⟨p, h⟩ | ⟨p, h⟩
    ·refine WC.condT' z p (sq (rg (wY (ya z) z (nl (th (rt (At.inBlockR (At.thenR (At.loopR ?_)))))))))
     have h := outr1 h l E
     refine At.joinBR (At.inBlockR (At.thenR ?_))
     obtain rfl := some1 h
     have ah : Stp [] (Lg.O0 A) w q Q := (tr_ (su_ c z) (su_ d z))
     exact At.res (.inl z) z (.tmp z .nil) ⟨z, (se_ ah z z)⟩
    ·refine WC.condF' z p (sk (At.inBlock (th (rg (wY (ym z) z (wY (Y.add_i z z) z ?_))))))
     obtain ⟨an, ai, h⟩ := lt1 h
     refine WL.yE (ya z) (congrArg vi ai.symm) z (nl ?_)
     exact At.round (an, q) am (Nat.lt_succ_self _) ⟨next1 h l, (tr_ (su_ c z) (su_ d z))⟩ (.cons z (.cons z (.cons z .nil)))
   ·refine WC.condF' z m (WC.exit (At.thenX (At.loopX ?_)))
    exact At.hitB (σ := Own) q ⟨brk1 h l, (su_ c z)⟩ .nil
  ·rintro ao aj ⟨rfl, K⟩
   replace h := flowK_go E
   refine (show At _ _ _ [] _ from ?_)
   refine At.inBlockHit (th (sq (rg (wY (ya z) z (nl (th (rt ?_)))))))
   obtain rfl := some1 h
   have ak : Stp [] (Lg.O0 A) w ao aj := (su_ K z)
   exact At.res (.inl z) z (.tmp z .nil) ⟨z, (se_ ak z z)⟩
theorem c_ref11_Sorted {A : Nat → Prop} {a0 : List api_Pair} {v0 : Value} {w : World} (hs0 : Sl rep_api_Pair w A v0 a0) {r0 : List api_Pair} (h : ref11_Sorted a0 = some r0) : Rets Try.prog 49 [v0] w (fun v w' => ∃ (u0 : Value), v = u0 ∧ Ext w w' ∧ RowF rep_api_Pair 65 w w' u0 r0) := by
 unfold ref11_Sorted at h
 refine Rets.enter Try.func49 z z ?_
 have bj : Sl rep_api_Pair w (imm (Lg.O0 A)) v0 a0 := (Sl.start hs0)
 refine (show WC _ _ _ _ [(0, v0)] _ from ?_)
 refine sq (rg (wY (ya z) z (nl (th (sq (rg (wY (ya z) z (nl (th ?_)))))))))
 refine sq (sq (rg (wY (ya z) z (nl (th (WC.block ?_))))))
 obtain ⟨bb, h, bk⟩ := flow1 h
 obtain ⟨bc, h⟩ := loop_some h
 refine WC.joinB 0 (σ := (List api_Pair × Own × Value)) (fun x w' => bb = .go x.1 ∧ Stp [11, 1001] (Lg.O0 A) w x.2.1 w' ∧ OwnSl 1002 rep_api_Pair 65 x.2.1 w' x.2.2 x.1) (fun x => [(3, x.2.2)]) ?_ ?_
 ·refine WC.loop (σ := (List api_Pair × Int × Own × Value)) (fun x k w' => loopN k (ref11_Sorted_lp1 a0) (x.1, x.2.1) = some bb ∧ Stp [11, 1001] (Lg.O0 A) w x.2.2.1 w' ∧ OwnSl 1001 rep_api_Pair 65 x.2.2.1 w' x.2.2.2 x.1) (fun x => [(0, v0), (3, x.2.2.2), (4, vi x.2.1)]) ([], 0, (Lg.O0 A), sn) bc (.cons z (.cons z (.cons z .nil))) ⟨h, (sr_ _ _ _), (OwnSl.nil 1001 rep_api_Pair 65)⟩ ?_
  rintro ⟨M, j, P, d⟩ bc I ⟨h, m, p⟩
  obtain ⟨bF, cn, rfl, h, Z⟩ := rnd1 h
  unfold ref11_Sorted_lp1 at h
  try dsimp only at h m p
  refine (show WC _ _ _ _ [(0, v0), (3, d), (4, vi j)] _ from ?_)
  refine sq (sq (rg (wY (ym z) z (wY (ym z) z ?_))))
  have J := bj.i m z z
  refine wY (Y.len ty25 z J) z (wY (Y.lss_i z z) z (nl (th ?_)))
  rcases cnd h with ⟨K, h⟩ | ⟨K, h⟩
  ·refine WC.condT' z K (sk (th (sq (WC.block (sq (rg (wY (ym z) z (wY (Y.len ty25 z p.src.sl) z ?_))))))))
   obtain ⟨bG, bl, h⟩ := lt1 h
   refine WL.yE (ya z) (congrArg vi bl.symm) z (nl (th (sq ?_)))
   obtain ⟨bH, h, bm⟩ := bnd h
   refine WC.join (σ := (Int × Own)) (fun x w' => x.1 = bH ∧ Stp [] P I x.2 w') (fun x => [(0, v0), (3, d), (4, vi j), (5, vi x.1)]) ?_ ?_
   ·refine WC.block ?_
    obtain ⟨bd, h, bn⟩ := flow1 h
    obtain ⟨bf, h⟩ := loop_some h
    refine WC.joinB 2 (σ := (Int × Own)) (fun x w' => bd = .go x.1 ∧ Stp [] P I x.2 w') (fun x => [(0, v0), (3, d), (4, vi j), (5, vi x.1)]) ?_ ?_
    ·refine WC.loop (σ := (Int × Own)) (fun x k w' => loopN k (ref11_Sorted_lp2 a0 M j) x.1 = some bd ∧ Stp [] P I x.2 w') (fun x => [(0, v0), (3, d), (4, vi j), (5, vi x.1)]) (bG, P) bf (.cons z (.cons z (.cons z (.cons z .nil)))) ⟨h, (sr_ _ _ _)⟩ ?_
     rintro ⟨Q, S⟩ bf b5 ⟨h, l⟩
     obtain ⟨bI, co, rfl, h, aa⟩ := rnd1 h
     unfold ref11_Sorted_lp2 at h
     try dsimp only at h l
     refine (show WC _ _ _ _ [(0, v0), (3, d), (4, vi j), (5, vi Q)] _ from ?_)
     refine sq (sq (WC.drawH [] [0, 1, 2, 3, 4, 5, 6, 7, 8, 9, 10, 11, 12, 13, 14, 15] S 16 fmix z (by kernel_rfl) ?_))
     intro bo n
     refine WD.y 0 z (by kernel_rfl) (fun _ _ _ => ym z) z (WD.y 1 z (by kernel_rfl) (fun _ _ _ => Y.gtr_i z z) z (WD.y 2 z (by kernel_rfl) (fun _ _ _ => ym z) z ?_))
     obtain ⟨bJ, h, bp⟩ := bnd h
     refine WD.join (σ := Bool) (f' := 0) [15, 14, 13, 12, 11, 10, 9, 8, 7, 6, 5, 4, 3, 2, 1, 0] (fun x O' w' => x = bJ ∧ bo = w' ∧ S = O') (fun x => [(0, v0), (3, d), (4, vi j), (5, vi Q), (30, vB x)]) (fun ab => ?_) ?_
     ·rcases cnd h with ⟨q, h⟩ | ⟨q, h⟩
      ·refine WD.ren 17 z (congrArg vB q) (WD.gT 3 z (by kernel_rfl) z z (fun _ _ _ => ym z) z (WD.gT 4 z (by kernel_rfl) z z (fun _ _ _ => ym z) z (WD.gT 5 z (by kernel_rfl) z z (fun _ _ _ => Y.sub_i z z) z ?_)))
       obtain ⟨T, bq, h⟩ := bnd h
       have ac := (p.st l z z z).st n z z z
       obtain ⟨cq, bT, b6, ad, bs, bt, L, ar⟩ := OwnSl.at ac bq
       obtain ⟨_, _, rfl, rfl, rfl⟩ := ar
       replace L : CellsAt _ _ _ [vs T.Key, vs T.Val] := L
       have au := CAt.own ac ad L
       refine WD.gT 6 z (by kernel_rfl) z z (fun _ _ _ => Y.indexAddr ty25 ty65 z ad z bs bt) z (WD.gT 7 z (by kernel_rfl) z z (fun _ _ _ => yf fo65_0 z) z (WD.gT 8 z (by kernel_rfl) z z (fun b7 cr av => have ax := au.st av z; yl ty9 z z (ax.at_.sub 0 [vs T.Key] z)) z (WD.gT 9 z (by kernel_rfl) z z (fun _ _ _ => ym z) z (WD.gT 10 z (by kernel_rfl) z z (fun _ _ _ => ym z) z ?_))))
       obtain ⟨C, ay, h⟩ := bnd h
       have aA := (J.i l z z).i n z z
       obtain ⟨b8, bK, bL, bU, aC, aD, aE, D, ae, aF⟩ := Sl.at2 aA ay
       obtain ⟨_, _, rfl, rfl, rfl⟩ := ae
       replace D : CellsAt _ _ _ [vs C.Key, vs C.Val] := D
       have af := CAt.imm D aF
       refine WD.gT 11 z (by kernel_rfl) z z (fun _ _ _ => Y.indexAddr ty25 ty65 z aC z aD aE) z (WD.gT 12 z (by kernel_rfl) z z (fun _ _ _ => yf fo65_0 z) z (WD.gT 13 z (by kernel_rfl) z z (fun bW b9 ah => have aG := af.st ah z; yl ty9 z z (aG.at_.sub 0 [vs C.Key] z)) z (WD.gT 14 z (by kernel_rfl) z z (fun _ _ _ => Y.gtr_s z z) z (WD.y 15 z (by kernel_rfl) (fun _ _ _ => Y.pick (b := true) z z) z (WD.ren 17 z (congrArg vB q.symm) ?_)))))
       exact ab (sLess C.Key T.Key) _ _ _ ⟨some1 h, z, z⟩ (.cons z (.cons z (.cons z (.cons z (.cons z .nil)))))
      ·refine WD.ren 17 z (congrArg vB q) (WD.gS 3 z (by kernel_rfl) z z z z (WD.gS 4 z (by kernel_rfl) z z z z (WD.gS 5 z (by kernel_rfl) z z z z (WD.gS 6 z (by kernel_rfl) z z z z (WD.gS 7 z (by kernel_rfl) z z z z (WD.gS 8 z (by kernel_rfl) z z z z (WD.gS 9 z (by kernel_rfl) z z z z (WD.gS 10 z (by kernel_rfl) z z z z (WD.gS 11 z (by kernel_rfl) z z z z ?_)))))))))
       refine WD.gS 12 z (by kernel_rfl) z z z z (WD.gS 13 z (by kernel_rfl) z z z z (WD.gS 14 z (by kernel_rfl) z z z z (WD.y 15 z (by kernel_rfl) (fun _ _ _ => Y.pick (b := false) z z) z (WD.ren 17 z (congrArg vB q.symm) ?_))))
       exact ab false _ _ _ ⟨some1 h, z, z⟩ (.cons z (.cons z (.cons z (.cons z (.cons z .nil)))))
     ·rintro bM _ _ ⟨rfl, rfl, rfl⟩
      replace h := bp
      try dsimp only at h
      refine (show WD _ _ _ _ _ _ _ _ [(0, v0), (3, d), (4, vi j), (5, vi Q), (30, vB bM)] _ _ from ?_)
      refine WD.done_ (by kernel_rfl) (th ?_)
      rcases cnd h with ⟨E, h⟩ | ⟨E, h⟩
      ·refine WC.condT' z E (sk (th (WC.block (rg (wY (ym z) z (wY (Y.sub_i z z) z ?_))))))
       obtain ⟨bu, aH, h⟩ := lt1 h
       refine WL.yE (ya z) (congrArg vi aH.symm) z (nl (At.inBlock ?_))
       exact At.round (bu, S) bI (Nat.lt_succ_self _) ⟨next1 h aa, (tr_ (su_ l z) (su_ n z))⟩ (.cons z (.cons z (.cons z (.cons z .nil))))
      ·refine WC.condF' z E (WC.exit (At.thenX (At.loopX ?_)))
       exact At.hitB (σ := (Int × Own)) (Q, S) ⟨brk1 h aa, (tr_ (su_ l z) (su_ n z))⟩ (.cons z (.cons z (.cons z (.cons z .nil))))
    ·rintro ⟨bg, bO⟩ ca ⟨rfl, U⟩
     replace h := flowK_go bn
     try dsimp only at h U
     refine (show At _ _ _ [(0, v0), (3, d), (4, vi j), (5, vi bg)] _ from ?_)
     refine At.inBlockHit ?_
     exact At.join (σ := (Int × Own)) (bg, bO) ⟨some1 h, (su_ U z)⟩ (.cons z (.cons z (.cons z (.cons z .nil))))
   ·rintro ⟨bh, bP⟩ bw ⟨rfl, o⟩
    replace h := bm
    try dsimp only at h o
    refine (show At _ _ _ [(0, v0), (3, d), (4, vi j), (5, vi bh)] _ from ?_)
    refine th (sq (rg (wY (ya z) z (nl (th (sq (rg (wY (ym z) z (wY (ym z) z ?_)))))))))
    refine wY (ym z) z ?_
    obtain ⟨cb, aI, h⟩ := bnd h
    have V := p.st o z z z
    refine WL.sliceOwn ty25 ty65 z z z V aI z ?_
    intro cc aJ
    obtain ⟨bX, ai, h⟩ := bnd h
    have aK := OwnSl.nil (O := bP) (w := bw) 11 rep_api_Pair 65
    refine WL.append (by decide) ty25 ty65 z (by decide) z z aK aJ.src ai z ?_
    intro cd bx bY r aL
    refine wY (ya z) z (nl (th (sq (rg (wY (ym z) z (wY (ym z) z (wY (ym z) z ?_)))))))
    obtain ⟨c, aM, h⟩ := bnd h
    have aO := (J.i o z z).i r z z
    obtain ⟨ce, bQ, bR, bZ, aP, aQ, aR, F, aj, aS⟩ := Sl.at2 aO aM
    obtain ⟨_, _, rfl, rfl, rfl⟩ := aj
    replace F : CellsAt _ _ _ [vs c.Key, vs c.Val] := F
    have ak := CAt.imm F aS
    refine wY (Y.indexAddr ty25 ty65 z aP z aQ aR) z (wY (yL ty65 z z ak.at_ z) z (WL.buildSlice (O := bx) (R := rep_api_Pair) (vals := [(0, ag [vs c.Key, vs c.Val])]) 12 [vs c.Key, vs c.Val] (xs := [c]) (by decide) ty25 ty65 (by decide) (by decide) (fe_ z) (by kernel_rfl) z ⟨[vs c.Key, vs c.Val], [], z, ⟨[vs c.Key], [vs c.Val], z, z, z⟩, z⟩ z ?_))
    intro cf cg b0 t aT
    obtain ⟨b1, al, h⟩ := bnd h
    have aU := aL.st t z z z
    refine WL.append (by decide) ty25 ty65 z (by decide) z z aU aT.src al z ?_
    intro ch ci b2 G aW
    refine wY (ya z) z (nl (th (rg (wY (ym z) z (wY (ym z) z (wY (ym z) z ?_))))))
    obtain ⟨cj, aX, h⟩ := bnd h
    have a1 := ((V.st r z z z).st t z z z).st G z z z
    obtain ⟨ck, H, a2⟩ := OwnSl.giveF rfl flat_api_Pair a1
    obtain ⟨cl, a3, a4⟩ := Sl.slice (ρ := [(46, d), (47, vi bh)]) (x := (.tmp 46)) (lo := (some (.tmp 47))) (hi := none) ty25 ty65 rfl rfl rfl a2 aX
    refine wY (Y.sub (.cons z (.cons z .nil)) (a3 _ _)) z ?_
    obtain ⟨a5, am, h⟩ := bnd h
    have a6 := aW.st H z z z
    refine WL.append (by decide) ty25 ty65 z (by decide) z z a6 (Sl.src (Sl.mono a4 frs_imm)) am z ?_
    intro bz cm b3 an a7
    refine wY (ya z) z (nl (At.inBlock (th (rg (wY (ym z) z (wY (Y.add_i z z) z ?_))))))
    obtain ⟨bA, a8, h⟩ := lt1 h
    refine WL.yE (ya z) (congrArg vi a8.symm) z (nl ?_)
    obtain ⟨bB, ao, a9⟩ := OwnSl.rlb 1001 rfl a7
    exact At.round (a5, bA, bB, bz) bF (Nat.lt_succ_self _) ⟨next1 h Z, (tr_ (su_ m z) (tr_ (su_ o z) (tr_ (su_ r z) (tr_ (su_ t z) (tr_ (su_ G z) (tr_ (su_ H z) (tr_ (su_ an z) (su_ ao z)))))))), a9⟩ (.cons z (.cons z (.cons z .nil)))
  ·refine WC.condF' z K (WC.exit (At.thenX (At.loopX ?_)))
   obtain ⟨bC, ap, ba⟩ := OwnSl.rlb 1002 rfl p
   exact At.hitB (σ := (List api_Pair × Own × Value)) (M, bC, d) ⟨brk1 h Z, (tr_ (su_ m z) (su_ ap z)), ba⟩ (.cons z .nil)
 ·rintro ⟨b4, bS, bi⟩ bD ⟨rfl, W, aq⟩
  replace h := flowK_go bk
  try dsimp only at h W aq
  refine (show At _ _ _ [(3, bi)] _ from ?_)
  refine At.inBlockHit (th (sq (rg (wY (ym z) z (wY (ya z) z (nl (th (rt ?_))))))))
  obtain rfl := some1 h
  have X : Stp [11, 1001] (Lg.O0 A) w bS bD := (su_ W z)
  exact At.res (.inl z) z (.tmp z .nil) ⟨bi, z, (se_ X z z), (OwnSl.outF aq X low0 z)⟩
theorem c_ref08_SameSide {A : Nat → Prop} {v0_1 : Value} {a0 : api_Side} {v1_1 : Value} {a1 : api_Side} {w : World} (hs0_1 : Sl Rep.u w A v0_1 a0.Counts) (hs1_1 : Sl Rep.u w A v1_1 a1.Counts) {r0 : Bool} (h : ref08_SameSide a0 a1 = some r0) : Rets Try.prog 84 [ag [vi a0.Offset, v0_1], ag [vi a1.Offset, v1_1]] w (fun v w' => v = vB r0 ∧ Ext w w') := by
 unfold ref08_SameSide at h
 refine Rets.enter Try.func84 z z ?_
 have n : Sl Rep.u w (imm (Lg.O0 A)) v0_1 a0.Counts := (Sl.start hs0_1)
 have Z : Sl Rep.u w (imm (Lg.O0 A)) v1_1 a1.Counts := (Sl.start hs1_1)
 refine (show WC _ _ _ _ [(0, ag [vi a0.Offset, v0_1]), (1, ag [vi a1.Offset, v1_1])] _ from ?_)
 refine sq (rg ?_)
 have aa := h
 obtain ⟨aK, aL, aM, rfl⟩ := n.shape
 have h := aa
 refine WL.box (O := (Lg.O0 A)) 11 [vi a0.Offset, (vl aK aL aM)] z z z ?_
 intro H aN a4 j ab
 have o := Z.i j z z
 have ac := h
 obtain ⟨aO, aP, aQ, rfl⟩ := o.shape
 have h := ac
 refine WL.box (O := aN) 12 [vi a1.Offset, (vl aO aP aQ)] z z z ?_
 intro I J m c p
 refine wY (ya z) z (nl (th (sq (sq (rg (wY (yf fo29_0 z) z ?_))))))
 have q := ab.st c z
 refine wY (yl ty3 z z (q.cell 0 _ z)) z (wY (yf fo29_0 z) z (wY (yl ty3 z z (p.cell 0 _ z)) z (wY (Y.neq_i z z) z (wY (ym z) z ?_))))
 refine WL.cut 8 (σ := Unit) (fun _ w' => m = w') (fun _ => [(2, pt H 0), (3, pt I 0), (19, vB ((!decide (a0.Offset = a1.Offset)) || (!decide ((a0.Counts.length : Int) = (a1.Counts.length : Int)))))]) ?_ ?_
 ·refine WL.part 11 z (fun r => ?_) (fun r => ?_)
  ·refine WL.gS z z z z (WL.gS z z z z (WL.gS z z z z (WL.gS z z z z (WL.gS z z z z (WL.gS z z z z (WL.gS z z z z (wY (Y.pick (b := true) z z) z (WL.ren (v' := vB ((!decide (a0.Offset = a1.Offset)) || (!decide ((a0.Counts.length : Int) = (a1.Counts.length : Int))))) 19 z (congrArg vB (orT r)) ?_))))))))
   exact nl (At.join () z (.cons z (.cons z (.cons z .nil))))
  ·refine ug z z (wY (yf fo29_1 z) z (ug z z (wY (yl ty27 z z (q.cell 1 _ z)) z (ug z z ?_))))
   have ae := (n.i j z z).i c z z
   refine wY (Y.len ty27 z ae) z (ug z z (wY (yf fo29_1 z) z (ug z z (wY (yl ty27 z z (p.cell 1 _ z)) z (ug z z ?_)))))
   have af := o.i c z z
   refine wY (Y.len ty27 z af) z (ug z z (wY (Y.neq_i z z) z (wY (Y.pick (b := false) z z) z (WL.ren (v' := vB ((!decide (a0.Offset = a1.Offset)) || (!decide ((a0.Counts.length : Int) = (a1.Counts.length : Int))))) 19 z (congrArg vB (orF r)) ?_))))
   exact nl (At.join () z (.cons z (.cons z (.cons z .nil))))
 ·rintro _ _ rfl
  refine (show WL _ _ _ _ _ [(2, pt H 0), (3, pt I 0), (19, vB ((!decide (a0.Offset = a1.Offset)) || (!decide ((a0.Counts.length : Int) = (a1.Counts.length : Int)))))] _ from ?_)
  refine nl (th ?_)
  rcases cnd h with ⟨t, h⟩ | ⟨t, h⟩
  ·refine WC.condT' z t (sq (rg (wY (ya z) z (nl (th (rt (At.thenR ?_)))))))
   obtain rfl := some1 h
   have ah : Stp [] (Lg.O0 A) w J m := (tr_ (su_ j z) (su_ c z))
   exact At.res (.inl z) z (.tmp z .nil) ⟨z, (se_ ah z z)⟩
  ·refine WC.condF' z t (sk (th (sq (sq (rg (wY (ya z) z (nl (th (WC.block ?_)))))))))
   obtain ⟨W, h, L⟩ := flow1 h
   obtain ⟨X, h⟩ := loop_some h
   refine WC.joinB 0 (σ := Own) (fun x w' => W = .go () ∧ Stp [] J m x w') (fun x => []) ?_ ?_
   ·refine WC.loop (σ := (Int × Own)) (fun x k w' => loopN k (ref08_SameSide_lp1 a0 a1) x.1 = some W ∧ Stp [] J m x.2 w') (fun x => [(2, pt H 0), (3, pt I 0), (5, vi x.1)]) (0, J) X (.cons z (.cons z (.cons z .nil))) ⟨h, (sr_ _ _ _)⟩ ?_
    rintro ⟨aR, K⟩ X a5 ⟨h, d⟩
    obtain ⟨aS, a8, rfl, h, C⟩ := rnd1 h
    unfold ref08_SameSide_lp1 at h
    try dsimp only at h d
    refine (show WC _ _ _ _ [(2, pt H 0), (3, pt I 0), (5, vi aR)] _ from ?_)
    refine sq (sq (rg (wY (ym z) z (wY (yf fo29_1 z) z ?_))))
    have M := q.st d z
    refine wY (yl ty27 z z (M.cell 1 _ z)) z ?_
    have P := ((n.i j z z).i c z z).i d z z
    refine wY (Y.len ty27 z P) z (wY (Y.lss_i z z) z (nl (th ?_)))
    rcases cnd h with ⟨D, h⟩ | ⟨D, h⟩
    ·refine WC.condT' z D (sk (th (sq (WC.block (sq (WC.draw 10 K fmix (by kernel_rfl) ?_))))))
     intro ak l
     refine WS.y (yf fo29_1 z) z ?_
     have al := M.st l z
     refine WS.y (yl ty27 z z (al.cell 1 _ z)) z (WS.y (ym z) z ?_)
     obtain ⟨aT, am, h⟩ := bnd h
     have an := P.i l z z
     obtain ⟨a9, aY, aZ, a6, ao, ap, aq, E, Q, ar⟩ := Sl.at2 an am
     obtain rfl := Q
     replace E : CellsAt _ _ _ [vu aT] := E
     have S := CAt.imm E ar
     refine WS.y (Y.indexAddr ty27 ty26 z ao z ap aq) z (WS.y (yl ty26 z z S.at_) z (WS.y (yf fo29_1 z) z ?_))
     have av := (p.st d z).st l z
     refine WS.y (yl ty27 z z (av.cell 1 _ z)) z (WS.y (ym z) z ?_)
     obtain ⟨aU, ax, h⟩ := bnd h
     have aA := ((o.i c z z).i d z z).i l z z
     obtain ⟨ba, a2, a3, a7, aC, aD, aE, F, T, aF⟩ := Sl.at2 aA ax
     obtain rfl := T
     replace F : CellsAt _ _ _ [vu aU] := F
     have U := CAt.imm F aF
     refine WS.y (Y.indexAddr ty27 ty26 z aC z aD aE) z (WS.y (yl ty26 z z U.at_) z (WS.tail (wY (Y.neq_u z z) z (nl (th ?_)))))
     rcases cnd h with ⟨G, h⟩ | ⟨G, h⟩
     ·refine WC.condT' z G (sq (rg (wY (ya z) z (nl (th (rt (At.inBlockR (At.thenR (At.loopR ?_)))))))))
      have h := outr1 h C L
      refine At.joinBR (At.inBlockR (At.thenR ?_))
      obtain rfl := some1 h
      have aG : Stp [] (Lg.O0 A) w K ak := (tr_ (su_ j z) (tr_ (su_ c z) (tr_ (su_ d z) (su_ l z))))
      exact At.res (.inl z) z (.tmp z .nil) ⟨z, (se_ aG z z)⟩
     ·refine WC.condF' z G (sk (At.inBlock (th (rg (wY (ym z) z (wY (Y.add_i z z) z ?_))))))
      obtain ⟨aW, aH, h⟩ := lt1 h
      refine WL.yE (ya z) (congrArg vi aH.symm) z (nl ?_)
      exact At.round (aW, K) aS (Nat.lt_succ_self _) ⟨next1 h C, (tr_ (su_ d z) (su_ l z))⟩ (.cons z (.cons z (.cons z .nil)))
    ·refine WC.condF' z D (WC.exit (At.thenX (At.loopX ?_)))
     exact At.hitB (σ := Own) K ⟨brk1 h C, (su_ d z)⟩ .nil
   ·rintro aX aI ⟨rfl, V⟩
    replace h := flowK_go L
    refine (show At _ _ _ [] _ from ?_)
    refine At.inBlockHit (th (sq (rg (wY (ya z) z (nl (th (rt ?_)))))))
    obtain rfl := some1 h
    have aJ : Stp [] (Lg.O0 A) w aX aI := (tr_ (su_ j z) (tr_ (su_ c z) (su_ V z)))
    exact At.res (.inl z) z (.tmp z .nil) ⟨z, (se_ aJ z z)⟩
theorem c_ref08_Same {A : Nat → Prop} {v0_3 : Value} {v0_5 : Value} {a0 : api_Hist} {v1_3 : Value} {v1_5 : Value} {a1 : api_Hist} {w : World} (hs0_3 : Sl Rep.u w A v0_3 a0.Pos.Counts) (hs0_5 : Sl Rep.u w A v0_5 a0.Neg.Counts) (hs1_3 : Sl Rep.u w A v1_3 a1.Pos.Counts) (hs1_5 : Sl Rep.u w A v1_5 a1.Neg.Counts) {r0 : Bool} (h : ref08_Same a0 a1 = some r0) : Rets Try.prog 50 [ag (hl a0 v0_3 v0_5), ag (hl a1 v1_3 v1_5)] w (fun v w' => v = vB r0 ∧ Ext w w') := by
 unfold ref08_Same at h
 refine Rets.enter Try.func50 z z ?_
 have C : Sl Rep.u w (imm (Lg.O0 A)) v0_3 a0.Pos.Counts := (Sl.start hs0_3)
 have D : Sl Rep.u w (imm (Lg.O0 A)) v0_5 a0.Neg.Counts := (Sl.start hs0_5)
 have ab : Sl Rep.u w (imm (Lg.O0 A)) v1_3 a1.Pos.Counts := (Sl.start hs1_3)
 have ac : Sl Rep.u w (imm (Lg.O0 A)) v1_5 a1.Neg.Counts := (Sl.start hs1_5)
 refine (show WC _ _ _ _ [(0, ag (hl a0 v0_3 v0_5)), (1, ag (hl a1 v1_3 v1_5))] _ from ?_)
 refine sq (rg ?_)
 have ad := h
 obtain ⟨E, F, G, rfl⟩ := C.shape
 have h := ad
 have ae := h
 obtain ⟨H, I, J, rfl⟩ := D.shape
 have h := ae
 refine WL.box (O := (Lg.O0 A)) 11 (hl a0 (vl E F G) (vl H I J)) z z z ?_
 intro q aG aT j af
 have K := ab.i j z z
 have ah := h
 obtain ⟨L, M, P, rfl⟩ := K.shape
 have h := ah
 have Q := ac.i j z z
 have ai := h
 obtain ⟨S, T, U, rfl⟩ := Q.shape
 have h := ai
 refine WL.box (O := aG) 12 (hl a1 (vl L M P) (vl S T U)) z z z ?_
 intro r V W c l
 refine wY (ya z) z (nl (th (sq (rg (wY (yf fo31_0 z) z ?_)))))
 have m := af.st c z
 refine wY (yl ty3 z z (m.cell 0 _ z)) z (wY (yf fo31_0 z) z (wY (yl ty3 z z (l.cell 0 _ z)) z (wY (Y.eql_i z z) z (wY (ym z) z ?_))))
 refine WL.cut 6 (σ := Unit) (fun _ w' => W = w') (fun _ => [(2, pt q 0), (3, pt r 0), (16, vB ((decide (a0.Scale = a1.Scale)) && (decide (a0.Zero = a1.Zero))))]) ?_ ?_
 ·refine WL.part 10 z (fun n => ?_) (fun n => ?_)
  ·refine ug z z (wY (yf fo31_1 z) z (ug z z (wY (yl ty26 z z (m.cell 1 _ z)) z (ug z z (wY (yf fo31_1 z) z (ug z z (wY (yl ty26 z z (l.cell 1 _ z)) z (ug z z (wY (Y.eql_u z z) z ?_)))))))))
   refine wY (Y.pick (b := true) z z) z (WL.ren (v' := vB ((decide (a0.Scale = a1.Scale)) && (decide (a0.Zero = a1.Zero)))) 16 z (congrArg vB (andT n)) ?_)
   exact nl (At.join () z (.cons z (.cons z (.cons z .nil))))
  ·refine WL.gS z z z z (WL.gS z z z z (WL.gS z z z z (WL.gS z z z z (WL.gS z z z z (wY (Y.pick (b := false) z z) z (WL.ren (v' := vB ((decide (a0.Scale = a1.Scale)) && (decide (a0.Zero = a1.Zero)))) 16 z (congrArg vB (andF n)) ?_))))))
   exact nl (At.join () z (.cons z (.cons z (.cons z .nil))))
 ·rintro _ _ rfl
  refine (show WL _ _ _ _ _ [(2, pt q 0), (3, pt r 0), (16, vB ((decide (a0.Scale = a1.Scale)) && (decide (a0.Zero = a1.Zero))))] _ from ?_)
  refine wY (ym z) z ?_
  obtain ⟨aH, h, aj⟩ := bnd h
  refine WL.cut 6 (σ := (Bool × Own)) (fun x w' => x.1 = aH ∧ Stp [] V W x.2 w') (fun x => [(2, pt q 0), (3, pt r 0), (23, vB x.1)]) ?_ ?_
  ·rcases cnd h with ⟨o, h⟩ | ⟨o, h⟩
   ·refine WL.ren 17 z (congrArg vB o) (ug z z (wY (yf fo31_2 z) z (ug z z (wY (yL ty29 z z (m.cells 2 [vi a0.Pos.Offset, (vl E F G)] z) z) z (ug z z (wY (yf fo31_2 z) z (ug z z (wY (yL ty29 z z (l.cells 2 [vi a1.Pos.Offset, (vl L M P)] z) z) z (ug z z ?_)))))))))
    have al := (C.i j z z).i c z z
    have am := K.i c z z
    obtain ⟨aI, an, h⟩ := bnd h
    refine WL.call (vals := [ag [vi a0.Pos.Offset, (vl E F G)], ag [vi a1.Pos.Offset, (vl L M P)]]) kok84 z z (c_ref08_SameSide (A := fun _ => True) (a0 := a0.Pos) (a1 := a1.Pos) (Sl.all al) (Sl.all am) an) ?_
    rintro aU aW ⟨rfl, ao⟩
    obtain ⟨aJ, aK, aL, Z⟩ := adoptE V (fun k => 1) ao
    refine wY (Y.pick (b := true) z z) z ?_
    exact nl (At.join (σ := (Bool × Own)) (aI, aJ) ⟨some1 h, (su_ Z z)⟩ (.cons z (.cons z (.cons z .nil))))
   ·refine WL.ren 17 z (congrArg vB o) (WL.gS z z z z (WL.gS z z z z (WL.gS z z z z (WL.gS z z z z (WL.gS z z z z (wY (Y.pick (b := false) z z) z ?_))))))
    exact nl (At.join (σ := (Bool × Own)) (false, V) ⟨some1 h, (sr_ _ _ _)⟩ (.cons z (.cons z (.cons z .nil))))
  ·rintro ⟨aM, X⟩ ap ⟨rfl, d⟩
   replace h := aj
   try dsimp only at h d
   refine (show WL _ _ _ _ _ [(2, pt q 0), (3, pt r 0), (23, vB aM)] _ from ?_)
   refine wY (ym z) z ?_
   obtain ⟨aN, h, aq⟩ := bnd h
   refine WL.cut 6 (σ := (Bool × Own)) (fun x w' => x.1 = aN ∧ Stp [] X ap x.2 w') (fun x => [(30, vB x.1)]) ?_ ?_
   ·rcases cnd h with ⟨p, h⟩ | ⟨p, h⟩
    ·refine WL.ren 24 z (congrArg vB p) (ug z z (wY (yf fo31_3 z) z (ug z z ?_)))
     have ar := m.st d z
     refine wY (yL ty29 z z (ar.cells 4 [vi a0.Neg.Offset, (vl H I J)] z) z) z (ug z z (wY (yf fo31_3 z) z (ug z z ?_)))
     have au := l.st d z
     refine wY (yL ty29 z z (au.cells 4 [vi a1.Neg.Offset, (vl S T U)] z) z) z (ug z z ?_)
     have ay := ((D.i j z z).i c z z).i d z z
     have aA := (Q.i c z z).i d z z
     obtain ⟨aO, aC, h⟩ := bnd h
     refine WL.call (vals := [ag [vi a0.Neg.Offset, (vl H I J)], ag [vi a1.Neg.Offset, (vl S T U)]]) kok84 z z (c_ref08_SameSide (A := fun _ => True) (a0 := a0.Neg) (a1 := a1.Neg) (Sl.all ay) (Sl.all aA) aC) ?_
     rintro aX aY ⟨rfl, aD⟩
     obtain ⟨aP, aQ, aR, aa⟩ := adoptE X (fun k => 1) aD
     refine wY (Y.pick (b := true) z z) z ?_
     exact nl (At.join (σ := (Bool × Own)) (aO, aP) ⟨some1 h, (su_ aa z)⟩ (.cons z .nil))
    ·refine WL.ren 24 z (congrArg vB p) (WL.gS z z z z (WL.gS z z z z (WL.gS z z z z (WL.gS z z z z (WL.gS z z z z (wY (Y.pick (b := false) z z) z ?_))))))
     exact nl (At.join (σ := (Bool × Own)) (false, X) ⟨some1 h, (sr_ _ _ _)⟩ (.cons z .nil))
   ·rintro ⟨x64, aS⟩ aE ⟨rfl, t⟩
    replace h := aq
    try dsimp only at h t
    refine (show WL _ _ _ _ _ [(30, vB x64)] _ from ?_)
    refine wY (ya z) z (nl (th (rt ?_)))
    obtain rfl := some1 h
    have aF : Stp [] (Lg.O0 A) w aS aE := (tr_ (su_ j z) (tr_ (su_ c z) (tr_ (su_ d z) (su_ t z))))
    exact At.res (.inl z) z (.tmp z .nil) ⟨z, (se_ aF z z)⟩
theorem c_ref12_Same {A : Nat → Prop} {v0_1 : Value} {v0_13 : Value} {v0_15 : Value} {a0 : api_Point} {v1_1 : Value} {v1_13 : Value} {v1_15 : Value} {a1 : api_Point} {w : World} (hs0_1 : Sl rep_api_Pair w A v0_1 a0.Attrs) (hs0_13 : Sl Rep.u w A v0_13 a0.Hist.Pos.Counts) (hs0_15 : Sl Rep.u w A v0_15 a0.Hist.Neg.Counts) (hs1_1 : Sl rep_api_Pair w A v1_1 a1.Attrs) (hs1_13 : Sl Rep.u w A v1_13 a1.Hist.Pos.Counts) (hs1_15 : Sl Rep.u w A v1_15 a1.Hist.Neg.Counts) {r0 : Bool} (h : ref12_Same a0 a1 = some r0) : Rets Try.prog 23 [ag (cp a0 v0_1 v0_13 v0_15), ag (cp a1 v1_1 v1_13 v1_15)] w (fun v w' => v = vB r0 ∧ Ext w w') := by
 unfold ref12_Same at h
 refine Rets.enter Try.func23 z z ?_
 have ab : Sl rep_api_Pair w (imm (Lg.O0 A)) v0_1 a0.Attrs := (Sl.start hs0_1)
 have ac : Sl Rep.u w (imm (Lg.O0 A)) v0_13 a0.Hist.Pos.Counts := (Sl.start hs0_13)
 have ad : Sl Rep.u w (imm (Lg.O0 A)) v0_15 a0.Hist.Neg.Counts := (Sl.start hs0_15)
 have bz : Sl rep_api_Pair w (imm (Lg.O0 A)) v1_1 a1.Attrs := (Sl.start hs1_1)
 have bA : Sl Rep.u w (imm (Lg.O0 A)) v1_13 a1.Hist.Pos.Counts := (Sl.start hs1_13)
 have bB : Sl Rep.u w (imm (Lg.O0 A)) v1_15 a1.Hist.Neg.Counts := (Sl.start hs1_15)
 refine (show WC _ _ _ _ [(0, ag (cp a0 v0_1 v0_13 v0_15)), (1, ag (cp a1 v1_1 v1_13 v1_15))] _ from ?_)
 refine sq (rg ?_)
 have bC := h
 obtain ⟨br, bs, bt, rfl⟩ := ab.shape
 have h := bC
 have bD := h
 obtain ⟨ae, af, ah, rfl⟩ := ac.shape
 have h := bD
 have bE := h
 obtain ⟨ai, aj, ak, rfl⟩ := ad.shape
 have h := bE
 refine WL.box (O := (Lg.O0 A)) 11 (cp a0 (vl br bs bt) (vl ae af ah) (vl ai aj ak)) z z z ?_
 intro n cb cj p V
 have al := bz.i p z z
 have bF := h
 obtain ⟨bu, bw, bx, rfl⟩ := al.shape
 have h := bF
 have am := bA.i p z z
 have bG := h
 obtain ⟨an, ao, ap, rfl⟩ := am.shape
 have h := bG
 have aq := bB.i p z z
 have bH := h
 obtain ⟨ar, au, av, rfl⟩ := aq.shape
 have h := bH
 refine WL.box (O := cb) 12 (cp a1 (vl bu bw bx) (vl an ao ap) (vl ar au av)) z z z ?_
 intro o X ck d W
 refine wY (ya z) z (nl (th (sq (sq (WC.drawH [] [0, 1, 2, 3, 4, 5, 6, 7, 8, 9, 10, 11, 12, 13, 14] X 15 fmix z (by kernel_rfl) ?_)))))
 intro bI c
 refine WD.y 0 z (by kernel_rfl) (fun _ _ _ => yf fo33_0 z) z (WD.y 1 z (by kernel_rfl) (fun cl cq aD => have bJ := V.st d z; have bK := bJ.st c z; have bL := bK.st aD z; yl ty9 z z (bL.cell 0 _ z)) z (WD.y 2 z (by kernel_rfl) (fun _ _ _ => yf fo33_0 z) z (WD.y 3 z (by kernel_rfl) (fun cm cr aE => have bM := W.st c z; have bO := bM.st aE z; yl ty9 z z (bO.cell 0 _ z)) z (WD.y 4 z (by kernel_rfl) (fun _ _ _ => Y.neq_s z z) z (WD.y 5 z (by kernel_rfl) (fun _ _ _ => ym z) z ?_)))))
 obtain ⟨cc, h, bP⟩ := bnd h
 refine WD.join (σ := (Bool × Own)) (f' := 0) [14, 13, 12, 11, 8, 10, 9, 7, 6, 5, 4, 3, 2, 1, 0] (fun x O' w' => x.1 = cc ∧ Stp [] X bI x.2 w' ∧ x.2 = O') (fun x => [(2, pt n 0), (3, pt o 0), (19, vB x.1)]) (fun ax => ?_) ?_
 ·rcases cnd h with ⟨r, h⟩ | ⟨r, h⟩
  ·refine WD.ren 10 z (congrArg vB r) (WD.gS 6 z (by kernel_rfl) z z z z (WD.gS 7 z (by kernel_rfl) z z z z (WD.gS 9 z (by kernel_rfl) z z z z (WD.gS 10 z (by kernel_rfl) z z z z (WD.heavy 8 z (by kernel_rfl) (WL.gS z z z z (nl (At.dq (sr_ _ _ _) (WD.heavy 11 z (by kernel_rfl) ?_)))))))))
   refine WL.gS z z z z (nl (At.dq (sr_ _ _ _) (WD.heavy 12 z (by kernel_rfl) (WL.gS z z z z (nl (At.dq (sr_ _ _ _) (WD.gS 13 z (by kernel_rfl) z z z z (WD.y 14 z (by kernel_rfl) (fun _ _ _ => Y.pick (b := true) z z) z (WD.ren 10 z (congrArg vB r.symm) ?_)))))))))
   exact ax (true, X) _ _ _ ⟨some1 h, (sr_ _ _ _), z⟩ (.cons z (.cons z (.cons z .nil)))
  ·refine WD.ren 10 z (congrArg vB r) (WD.gT 6 z (by kernel_rfl) z z (fun _ _ _ => yf fo33_1 z) z (WD.gT 7 z (by kernel_rfl) z z (fun cn cs aF => have bQ := V.st d z; have bR := bQ.st c z; have bS := bR.st aF z; yl ty25 z z (bS.cell 1 _ z)) z (WD.gT 9 z (by kernel_rfl) z z (fun _ _ _ => yf fo33_1 z) z (WD.gT 10 z (by kernel_rfl) z z (fun ce co ay => have aG := W.st c z; have aH := aG.st ay z; yl ty25 z z (aH.cell 1 _ z)) z (WD.heavy 8 z (by kernel_rfl) (ug z z ?_))))))
   have aK := ((ab.i p z z).i d z z).i c z z
   obtain ⟨bT, aL, h⟩ := bnd h
   refine WL.call (vals := [(vl br bs bt)]) kok49 z z (c_ref11_Sorted (A := fun _ => True) (Sl.all aK) aL) ?_
   rintro D aM ⟨_, rfl, aN, bU⟩
   obtain ⟨az, b5, Z, t⟩ := adoptE X (fun k => if ob D = some k then 13 else 1) aN
   have aO : OwnSl 13 rep_api_Pair 65 az aM D bT := RowF.adopt 13 flat_api_Pair bU Z (fun k hk => if_pos hk)
   refine nl (At.dq (su_ t z) (WD.heavy 11 z (by kernel_rfl) (ug z z ?_)))
   have aR := ((al.i d z z).i c z z).i t z z
   obtain ⟨bW, aS, h⟩ := bnd h
   refine WL.call (vals := [(vl bu bw bx)]) kok49 z z (c_ref11_Sorted (A := fun _ => True) (Sl.all aR) aS) ?_
   rintro E aT ⟨_, rfl, aU, bX⟩
   obtain ⟨aA, b6, aa, C⟩ := adoptE az (fun k => if ob E = some k then 14 else 1) aU
   have aW : OwnSl 14 rep_api_Pair 65 aA aT E bW := RowF.adopt 14 flat_api_Pair bX aa (fun k hk => if_pos hk)
   refine nl (At.dq (su_ C z) (WD.heavy 12 z (by kernel_rfl) (ug z z ?_)))
   have aX := aO.st C z z z
   obtain ⟨bY, aY, h⟩ := bnd h
   refine WL.call (vals := [D, E]) kok48 z z (c_ref11_Same (A := fun _ => True) (aX.src.sl) (aW.src.sl) aY) ?_
   rintro cf cg ⟨rfl, aZ⟩
   obtain ⟨bZ, b7, b8, S⟩ := adoptE aA (fun k => 1) aZ
   refine nl (At.dq (su_ S z) (WD.gT 13 z (by kernel_rfl) z z (fun _ _ _ => Y.not z) z (WD.y 14 z (by kernel_rfl) (fun _ _ _ => Y.pick (b := false) z z) z (WD.ren 10 z (congrArg vB r.symm) ?_))))
   exact ax ((!bY), bZ) _ _ _ ⟨some1 h, (tr_ (su_ t z) (tr_ (su_ C z) (su_ S z))), z⟩ (.cons z (.cons z (.cons z .nil)))
 ·rintro ⟨cd, T⟩ _ q ⟨rfl, j, rfl⟩
  replace h := bP
  try dsimp only at h j
  refine (show WD _ _ _ _ _ _ _ _ [(2, pt n 0), (3, pt o 0), (19, vB cd)] _ _ from ?_)
  refine WD.done_ (by kernel_rfl) (th ?_)
  rcases cnd h with ⟨F, h⟩ | ⟨F, h⟩
  ·refine WC.condT' z F (sq (rg (wY (ya z) z (nl (th (rt (At.thenR ?_)))))))
   obtain rfl := some1 h
   have a2 : Stp [] (Lg.O0 A) w T q := (tr_ (su_ p z) (tr_ (su_ d z) (tr_ (su_ c z) (su_ j z))))
   exact At.res (.inl z) z (.tmp z .nil) ⟨z, (se_ a2 z z)⟩
  ·refine WC.condF' z F (sk (th (sq (sq (rg (wY (yf fo33_2 z) z ?_))))))
   have l := ((V.st d z).st c z).st j z
   refine wY (yl ty3 z z (l.cell 2 _ z)) z (wY (yf fo33_2 z) z ?_)
   have m := (W.st c z).st j z
   refine wY (yl ty3 z z (m.cell 2 _ z)) z (wY (Y.neq_i z z) z (wY (ym z) z ?_))
   refine WL.cut 6 (σ := Unit) (fun _ w' => q = w') (fun _ => [(2, pt n 0), (3, pt o 0), (31, vB ((!decide (a0.Kind = a1.Kind)) || (!decide (a0.Temp = a1.Temp))))]) ?_ ?_
   ·refine WL.part 25 z (fun G => ?_) (fun G => ?_)
    ·refine WL.gS z z z z (WL.gS z z z z (WL.gS z z z z (WL.gS z z z z (WL.gS z z z z (wY (Y.pick (b := true) z z) z (WL.ren (v' := vB ((!decide (a0.Kind = a1.Kind)) || (!decide (a0.Temp = a1.Temp)))) 31 z (congrArg vB (orT G)) ?_))))))
     exact nl (At.join () z (.cons z (.cons z (.cons z .nil))))
    ·refine ug z z (wY (yf fo33_3 z) z (ug z z (wY (yl ty3 z z (l.cell 3 _ z)) z (ug z z (wY (yf fo33_3 z) z (ug z z (wY (yl ty3 z z (m.cell 3 _ z)) z (ug z z (wY (Y.neq_i z z) z ?_)))))))))
     refine wY (Y.pick (b := false) z z) z (WL.ren (v' := vB ((!decide (a0.Kind = a1.Kind)) || (!decide (a0.Temp = a1.Temp)))) 31 z (congrArg vB (orF G)) ?_)
     exact nl (At.join () z (.cons z (.cons z (.cons z .nil))))
   ·rintro _ _ rfl
    refine (show WL _ _ _ _ _ [(2, pt n 0), (3, pt o 0), (31, vB ((!decide (a0.Kind = a1.Kind)) || (!decide (a0.Temp = a1.Temp))))] _ from ?_)
    refine wY (ym z) z ?_
    refine WL.cut 6 (σ := Unit) (fun _ w' => q = w') (fun _ => [(2, pt n 0), (3, pt o 0), (38, vB (((!decide (a0.Kind = a1.Kind)) || (!decide (a0.Temp = a1.Temp))) || (!decide (a0.Mono = a1.Mono))))]) ?_ ?_
    ·refine WL.part 32 z (fun H => ?_) (fun H => ?_)
     ·refine WL.gS z z z z (WL.gS z z z z (WL.gS z z z z (WL.gS z z z z (WL.gS z z z z (wY (Y.pick (b := true) z z) z (WL.ren (v' := vB (((!decide (a0.Kind = a1.Kind)) || (!decide (a0.Temp = a1.Temp))) || (!decide (a0.Mono = a1.Mono)))) 38 z (congrArg vB (orT H)) ?_))))))
      exact nl (At.join () z (.cons z (.cons z (.cons z .nil))))
     ·refine ug z z (wY (yf fo33_4 z) z (ug z z (wY (yl ty4 z z (l.cell 4 _ z)) z (ug z z (wY (yf fo33_4 z) z (ug z z (wY (yl ty4 z z (m.cell 4 _ z)) z (ug z z (wY (Y.neqB z z ty4.u) z ?_)))))))))
      refine wY (Y.pick (b := false) z z) z (WL.ren (v' := vB (((!decide (a0.Kind = a1.Kind)) || (!decide (a0.Temp = a1.Temp))) || (!decide (a0.Mono = a1.Mono)))) 38 z (congrArg vB (orF H)) ?_)
      exact nl (At.join () z (.cons z (.cons z (.cons z .nil))))
    ·rintro _ _ rfl
     refine (show WL _ _ _ _ _ [(2, pt n 0), (3, pt o 0), (38, vB (((!decide (a0.Kind = a1.Kind)) || (!decide (a0.Temp = a1.Temp))) || (!decide (a0.Mono = a1.Mono))))] _ from ?_)
     refine wY (ym z) z ?_
     refine WL.cut 6 (σ := Unit) (fun _ w' => q = w') (fun _ => [(2, pt n 0), (3, pt o 0), (45, vB ((((!decide (a0.Kind = a1.Kind)) || (!decide (a0.Temp = a1.Temp))) || (!decide (a0.Mono = a1.Mono))) || (!decide (a0.Start = a1.Start))))]) ?_ ?_
     ·refine WL.part 39 z (fun I => ?_) (fun I => ?_)
      ·refine WL.gS z z z z (WL.gS z z z z (WL.gS z z z z (WL.gS z z z z (WL.gS z z z z (wY (Y.pick (b := true) z z) z (WL.ren (v' := vB ((((!decide (a0.Kind = a1.Kind)) || (!decide (a0.Temp = a1.Temp))) || (!decide (a0.Mono = a1.Mono))) || (!decide (a0.Start = a1.Start)))) 45 z (congrArg vB (orT I)) ?_))))))
       exact nl (At.join () z (.cons z (.cons z (.cons z .nil))))
      ·refine ug z z (wY (yf fo33_5 z) z (ug z z (wY (yl ty3 z z (l.cell 5 _ z)) z (ug z z (wY (yf fo33_5 z) z (ug z z (wY (yl ty3 z z (m.cell 5 _ z)) z (ug z z (wY (Y.neq_i z z) z ?_)))))))))
       refine wY (Y.pick (b := false) z z) z (WL.ren (v' := vB ((((!decide (a0.Kind = a1.Kind)) || (!decide (a0.Temp = a1.Temp))) || (!decide (a0.Mono = a1.Mono))) || (!decide (a0.Start = a1.Start)))) 45 z (congrArg vB (orF I)) ?_)
       exact nl (At.join () z (.cons z (.cons z (.cons z .nil))))
     ·rintro _ _ rfl
      refine (show WL _ _ _ _ _ [(2, pt n 0), (3, pt o 0), (45, vB ((((!decide (a0.Kind = a1.Kind)) || (!decide (a0.Temp = a1.Temp))) || (!decide (a0.Mono = a1.Mono))) || (!decide (a0.Start = a1.Start))))] _ from ?_)
      refine wY (ym z) z ?_
      refine WL.cut 6 (σ := Unit) (fun _ w' => q = w') (fun _ => [(2, pt n 0), (3, pt o 0), (52, vB (((((!decide (a0.Kind = a1.Kind)) || (!decide (a0.Temp = a1.Temp))) || (!decide (a0.Mono = a1.Mono))) || (!decide (a0.Start = a1.Start))) || (!decide (a0.Time = a1.Time))))]) ?_ ?_
      ·refine WL.part 46 z (fun J => ?_) (fun J => ?_)
       ·refine WL.gS z z z z (WL.gS z z z z (WL.gS z z z z (WL.gS z z z z (WL.gS z z z z (wY (Y.pick (b := true) z z) z (WL.ren (v' := vB (((((!decide (a0.Kind = a1.Kind)) || (!decide (a0.Temp = a1.Temp))) || (!decide (a0.Mono = a1.Mono))) || (!decide (a0.Start = a1.Start))) || (!decide (a0.Time = a1.Time)))) 52 z (congrArg vB (orT J)) ?_))))))
        exact nl (At.join () z (.cons z (.cons z (.cons z .nil))))
       ·refine ug z z (wY (yf fo33_6 z) z (ug z z (wY (yl ty3 z z (l.cell 6 _ z)) z (ug z z (wY (yf fo33_6 z) z (ug z z (wY (yl ty3 z z (m.cell 6 _ z)) z (ug z z (wY (Y.neq_i z z) z ?_)))))))))
        refine wY (Y.pick (b := false) z z) z (WL.ren (v' := vB (((((!decide (a0.Kind = a1.Kind)) || (!decide (a0.Temp = a1.Temp))) || (!decide (a0.Mono = a1.Mono))) || (!decide (a0.Start = a1.Start))) || (!decide (a0.Time = a1.Time)))) 52 z (congrArg vB (orF J)) ?_)
        exact nl (At.join () z (.cons z (.cons z (.cons z .nil))))
      ·rintro _ _ rfl
       refine (show WL _ _ _ _ _ [(2, pt n 0), (3, pt o 0), (52, vB (((((!decide (a0.Kind = a1.Kind)) || (!decide (a0.Temp = a1.Temp))) || (!decide (a0.Mono = a1.Mono))) || (!decide (a0.Start = a1.Start))) || (!decide (a0.Time = a1.Time))))] _ from ?_)
       refine nl (th ?_)
       rcases cnd h with ⟨K, h⟩ | ⟨K, h⟩
       ·refine WC.condT' z K (sq (rg (wY (ya z) z (nl (th (rt (At.thenR ?_)))))))
        obtain rfl := some1 h
        have a6 : Stp [] (Lg.O0 A) w T q := (tr_ (su_ p z) (tr_ (su_ d z) (tr_ (su_ c z) (su_ j z))))
        exact At.res (.inl z) z (.tmp z .nil) ⟨z, (se_ a6 z z)⟩
       ·refine WC.condF' z K (sk (th (sq (rg (wY (yf fo33_7 z) z (wY (yl ty3 z z (l.cell 7 _ z)) z (wY (yf fo33_7 z) z (wY (yl ty3 z z (m.cell 7 _ z)) z (wY (Y.eql_i z z) z ?_)))))))))
        refine wY (ym z) z ?_
        refine WL.cut 6 (σ := Unit) (fun _ w' => q = w') (fun _ => [(2, pt n 0), (3, pt o 0), (64, vB ((decide (a0.Int_ = a1.Int_)) && (decide (a0.Re = a1.Re))))]) ?_ ?_
        ·refine WL.part 58 z (fun L => ?_) (fun L => ?_)
         ·refine ug z z (wY (yf fo33_8 z) z (ug z z (wY (yl ty26 z z (l.cell 8 _ z)) z (ug z z (wY (yf fo33_8 z) z (ug z z (wY (yl ty26 z z (m.cell 8 _ z)) z (ug z z (wY (Y.eql_u z z) z ?_)))))))))
          refine wY (Y.pick (b := true) z z) z (WL.ren (v' := vB ((decide (a0.Int_ = a1.Int_)) && (decide (a0.Re = a1.Re)))) 64 z (congrArg vB (andT L)) ?_)
          exact nl (At.join () z (.cons z (.cons z (.cons z .nil))))
         ·refine WL.gS z z z z (WL.gS z z z z (WL.gS z z z z (WL.gS z z z z (WL.gS z z z z (wY (Y.pick (b := false) z z) z (WL.ren (v' := vB ((decide (a0.Int_ = a1.Int_)) && (decide (a0.Re = a1.Re)))) 64 z (congrArg vB (andF L)) ?_))))))
          exact nl (At.join () z (.cons z (.cons z (.cons z .nil))))
        ·rintro _ _ rfl
         refine (show WL _ _ _ _ _ [(2, pt n 0), (3, pt o 0), (64, vB ((decide (a0.Int_ = a1.Int_)) && (decide (a0.Re = a1.Re))))] _ from ?_)
         refine wY (ym z) z ?_
         refine WL.cut 6 (σ := Unit) (fun _ w' => q = w') (fun _ => [(2, pt n 0), (3, pt o 0), (71, vB (((decide (a0.Int_ = a1.Int_)) && (decide (a0.Re = a1.Re))) && (decide (a0.Im = a1.Im))))]) ?_ ?_
         ·refine WL.part 65 z (fun M => ?_) (fun M => ?_)
          ·refine ug z z (wY (yf fo33_9 z) z (ug z z (wY (yl ty26 z z (l.cell 9 _ z)) z (ug z z (wY (yf fo33_9 z) z (ug z z (wY (yl ty26 z z (m.cell 9 _ z)) z (ug z z (wY (Y.eql_u z z) z ?_)))))))))
           refine wY (Y.pick (b := true) z z) z (WL.ren (v' := vB (((decide (a0.Int_ = a1.Int_)) && (decide (a0.Re = a1.Re))) && (decide (a0.Im = a1.Im)))) 71 z (congrArg vB (andT M)) ?_)
           exact nl (At.join () z (.cons z (.cons z (.cons z .nil))))
          ·refine WL.gS z z z z (WL.gS z z z z (WL.gS z z z z (WL.gS z z z z (WL.gS z z z z (wY (Y.pick (b := false) z z) z (WL.ren (v' := vB (((decide (a0.Int_ = a1.Int_)) && (decide (a0.Re = a1.Re))) && (decide (a0.Im = a1.Im)))) 71 z (congrArg vB (andF M)) ?_))))))
           exact nl (At.join () z (.cons z (.cons z (.cons z .nil))))
         ·rintro _ _ rfl
          refine (show WL _ _ _ _ _ [(2, pt n 0), (3, pt o 0), (71, vB (((decide (a0.Int_ = a1.Int_)) && (decide (a0.Re = a1.Re))) && (decide (a0.Im = a1.Im))))] _ from ?_)
          refine wY (ym z) z ?_
          refine WL.cut 6 (σ := Unit) (fun _ w' => q = w') (fun _ => [(2, pt n 0), (3, pt o 0), (78, vB ((((decide (a0.Int_ = a1.Int_)) && (decide (a0.Re = a1.Re))) && (decide (a0.Im = a1.Im))) && (decide (a0.Flags = a1.Flags))))]) ?_ ?_
          ·refine WL.part 72 z (fun P => ?_) (fun P => ?_)
           ·refine ug z z (wY (yf fo33_11 z) z (ug z z (wY (yl ty3 z z (l.cell 16 _ z)) z (ug z z (wY (yf fo33_11 z) z (ug z z (wY (yl ty3 z z (m.cell 16 _ z)) z (ug z z (wY (Y.eql_i z z) z ?_)))))))))
            refine wY (Y.pick (b := true) z z) z (WL.ren (v' := vB ((((decide (a0.Int_ = a1.Int_)) && (decide (a0.Re = a1.Re))) && (decide (a0.Im = a1.Im))) && (decide (a0.Flags = a1.Flags)))) 78 z (congrArg vB (andT P)) ?_)
            exact nl (At.join () z (.cons z (.cons z (.cons z .nil))))
           ·refine WL.gS z z z z (WL.gS z z z z (WL.gS z z z z (WL.gS z z z z (WL.gS z z z z (wY (Y.pick (b := false) z z) z (WL.ren (v' := vB ((((decide (a0.Int_ = a1.Int_)) && (decide (a0.Re = a1.Re))) && (decide (a0.Im = a1.Im))) && (decide (a0.Flags = a1.Flags)))) 78 z (congrArg vB (andF P)) ?_))))))
            exact nl (At.join () z (.cons z (.cons z (.cons z .nil))))
          ·rintro _ _ rfl
           refine (show WL _ _ _ _ _ [(2, pt n 0), (3, pt o 0), (78, vB ((((decide (a0.Int_ = a1.Int_)) && (decide (a0.Re = a1.Re))) && (decide (a0.Im = a1.Im))) && (decide (a0.Flags = a1.Flags))))] _ from ?_)
           refine wY (ym z) z ?_
           obtain ⟨b0, h, a7⟩ := bnd h
           refine WL.cut 6 (σ := (Bool × Own)) (fun x w' => x.1 = b0 ∧ Stp [] T q x.2 w') (fun x => [(85, vB x.1)]) ?_ ?_
           ·rcases cnd h with ⟨Q, h⟩ | ⟨Q, h⟩
            ·refine WL.ren 79 z (congrArg vB Q) (ug z z (wY (yf fo33_10 z) z (ug z z (wY (yL ty31 z z (l.cells 10 (hl a0.Hist (vl ae af ah) (vl ai aj ak)) z) z) z (ug z z (wY (yf fo33_10 z) z (ug z z (wY (yL ty31 z z (m.cells 10 (hl a1.Hist (vl an ao ap) (vl ar au av)) z) z) z (ug z z ?_)))))))))
             have bb := (((ac.i p z z).i d z z).i c z z).i j z z
             have bg := (((ad.i p z z).i d z z).i c z z).i j z z
             have bj := ((am.i d z z).i c z z).i j z z
             have bm := ((aq.i d z z).i c z z).i j z z
             obtain ⟨b1, bn, h⟩ := bnd h
             refine WL.call (vals := [ag (hl a0.Hist (vl ae af ah) (vl ai aj ak)), ag (hl a1.Hist (vl an ao ap) (vl ar au av))]) kok50 z z (c_ref08_Same (A := fun _ => True) (a0 := a0.Hist) (a1 := a1.Hist) (Sl.all bb) (Sl.all bg) (Sl.all bj) (Sl.all bm) bn) ?_
             rintro ch ci ⟨rfl, bo⟩
             obtain ⟨b2, b9, ca, aC⟩ := adoptE T (fun k => 1) bo
             refine wY (Y.pick (b := true) z z) z ?_
             exact nl (At.join (σ := (Bool × Own)) (b1, b2) ⟨some1 h, (su_ aC z)⟩ (.cons z .nil))
            ·refine WL.ren 79 z (congrArg vB Q) (WL.gS z z z z (WL.gS z z z z (WL.gS z z z z (WL.gS z z z z (WL.gS z z z z (wY (Y.pick (b := false) z z) z ?_))))))
             exact nl (At.join (σ := (Bool × Own)) (false, T) ⟨some1 h, (sr_ _ _ _)⟩ (.cons z .nil))
           ·rintro ⟨b3, b4⟩ bp ⟨rfl, U⟩
            replace h := a7
            try dsimp only at h U
            refine (show WL _ _ _ _ _ [(85, vB b3)] _ from ?_)
            refine wY (ya z) z (nl (th (rt ?_)))
            obtain rfl := some1 h
            have bq : Stp [] (Lg.O0 A) w b4 bp := (tr_ (su_ p z) (tr_ (su_ d z) (tr_ (su_ c z) (tr_ (su_ j z) (su_ U z)))))
            exact At.res (.inl z) z (.tmp z .nil) ⟨z, (se_ bq z z)⟩
theorem c_ref12_SameAll {A : Nat → Prop} {a0 : List api_Point} {v0 : Value} {a1 : List api_Point} {v1 : Value} {w : World} (hs0 : Sl rep_api_Point w A v0 a0) (hs1 : Sl rep_api_Point w A v1 a1) {r0 : Bool} (h : ref12_SameAll a0 a1 = some r0) : Rets Try.prog 9 [v0, v1] w (fun v w' => v = vB r0 ∧ Ext w w') := by
 unfold ref12_SameAll at h
 refine Rets.enter Try.func9 z z ?_
 have r : Sl rep_api_Point w (imm (Lg.O0 A)) v0 a0 := (Sl.start hs0)
 have t : Sl rep_api_Point w (imm (Lg.O0 A)) v1 a1 := (Sl.start hs1)
 refine (show WC _ _ _ _ [(0, v0), (1, v1)] _ from ?_)
 refine sq (rg (wY (ya z) z (nl (th (sq (sq (rg (wY (ym z) z (wY (Y.len ty22 z r) z ?_)))))))))
 refine wY (ym z) z (wY (Y.len ty22 z t) z (wY (Y.neq_i z z) z (nl (th ?_))))
 rcases cnd h with ⟨j, h⟩ | ⟨j, h⟩
 ·refine WC.condT' z j (sq (rg (wY (ya z) z (nl (th (rt (At.thenR ?_)))))))
  obtain rfl := some1 h
  have Z : Stp [] (Lg.O0 A) w (Lg.O0 A) w := (sr_ _ _ _)
  exact At.res (.inl z) z (.tmp z .nil) ⟨z, (se_ Z z z)⟩
 ·refine WC.condF' z j (sk (th (sq (sq (rg (wY (ya z) z (nl (th (WC.block ?_)))))))))
  obtain ⟨M, h, C⟩ := flow1 h
  obtain ⟨P, h⟩ := loop_some h
  refine WC.joinB 0 (σ := Own) (fun x w' => M = .go () ∧ Stp [] (Lg.O0 A) w x w') (fun x => []) ?_ ?_
  ·refine WC.loop (σ := (Int × Own)) (fun x k w' => loopN k (ref12_SameAll_lp1 a0 a1) x.1 = some M ∧ Stp [] (Lg.O0 A) w x.2 w') (fun x => [(0, v0), (1, v1), (5, vi x.1)]) (0, (Lg.O0 A)) P (.cons z (.cons z (.cons z .nil))) ⟨h, (sr_ _ _ _)⟩ ?_
   rintro ⟨aF, D⟩ P aP ⟨h, c⟩
   obtain ⟨aG, aU, rfl, h, l⟩ := rnd1 h
   unfold ref12_SameAll_lp1 at h
   try dsimp only at h c
   refine (show WC _ _ _ _ [(0, v0), (1, v1), (5, vi aF)] _ from ?_)
   refine sq (sq (rg (wY (ym z) z (wY (ym z) z ?_))))
   have E := r.i c z z
   refine wY (Y.len ty22 z E) z (wY (Y.lss_i z z) z (nl (th ?_)))
   rcases cnd h with ⟨m, h⟩ | ⟨m, h⟩
   ·refine WC.condT' z m (sk (th (sq (WC.block (sq (WC.draw 8 D fmix (by kernel_rfl) ?_))))))
    intro aQ d
    refine WS.y (ym z) z (WS.y (ym z) z ?_)
    obtain ⟨F, aa, h⟩ := bnd h
    have ab := E.i d z z
    obtain ⟨aW, aL, aM, aR, ac, ad, ae, n, H, af⟩ := Sl.at2 ab aa
    obtain ⟨_, _, rfl, rfl, ⟨_, _, rfl, ⟨Q, rfl, ah⟩, ⟨_, _, rfl, rfl, ⟨_, _, rfl, rfl, ⟨_, _, rfl, rfl, ⟨_, _, rfl, rfl, ⟨_, _, rfl, rfl, ⟨_, _, rfl, rfl, ⟨_, _, rfl, rfl, ⟨_, _, rfl, rfl, ⟨_, _, rfl, ⟨_, _, rfl, rfl, ⟨_, _, rfl, rfl, ⟨_, _, rfl, ⟨_, _, rfl, rfl, ⟨S, rfl, ai⟩⟩, ⟨_, _, rfl, rfl, ⟨T, rfl, aj⟩⟩⟩⟩⟩, rfl⟩⟩⟩⟩⟩⟩⟩⟩⟩⟩⟩ := H
    replace n : CellsAt _ _ _ (cp F Q S T) := n
    have I := CAt.imm n af
    refine WS.y (Y.indexAddr ty22 ty33 z ac z ad ae) z (WS.y (yL ty33 z z I.at_ z) z (WS.y (ym z) z (WS.y (ym z) z ?_)))
    obtain ⟨G, ak, h⟩ := bnd h
    have am := (t.i c z z).i d z z
    obtain ⟨aX, aN, aO, aS, an, ao, ap, o, J, aq⟩ := Sl.at2 am ak
    obtain ⟨_, _, rfl, rfl, ⟨_, _, rfl, ⟨U, rfl, ar⟩, ⟨_, _, rfl, rfl, ⟨_, _, rfl, rfl, ⟨_, _, rfl, rfl, ⟨_, _, rfl, rfl, ⟨_, _, rfl, rfl, ⟨_, _, rfl, rfl, ⟨_, _, rfl, rfl, ⟨_, _, rfl, rfl, ⟨_, _, rfl, ⟨_, _, rfl, rfl, ⟨_, _, rfl, rfl, ⟨_, _, rfl, ⟨_, _, rfl, rfl, ⟨V, rfl, au⟩⟩, ⟨_, _, rfl, rfl, ⟨W, rfl, av⟩⟩⟩⟩⟩, rfl⟩⟩⟩⟩⟩⟩⟩⟩⟩⟩⟩ := J
    replace o : CellsAt _ _ _ (cp G U V W) := o
    have K := CAt.imm o aq
    refine WS.y (Y.indexAddr ty22 ty33 z an z ao ap) z (WS.y (yL ty33 z z K.at_ z) z (WS.tail ?_))
    obtain ⟨aY, ax, h⟩ := bnd h
    refine WL.call (vals := [ag (cp F Q S T), ag (cp G U V W)]) kok23 z z (c_ref12_Same (A := fun _ => True) (a0 := F) (a1 := G) (Sl.all ah) (Sl.all ai) (Sl.all aj) (Sl.all ar) (Sl.all au) (Sl.all av) ax) ?_
    rintro aT ay ⟨rfl, az⟩
    obtain ⟨X, aH, aI, q⟩ := adoptE D (fun k => 1) az
    refine wY (Y.not z) z (nl (th ?_))
    rcases cnd h with ⟨p, h⟩ | ⟨p, h⟩
    ·refine WC.condT' z p (sq (rg (wY (ya z) z (nl (th (rt (At.inBlockR (At.thenR (At.loopR ?_)))))))))
     have h := outr1 h l C
     refine At.joinBR (At.inBlockR (At.thenR ?_))
     obtain rfl := some1 h
     have aA : Stp [] (Lg.O0 A) w X ay := (tr_ (su_ c z) (tr_ (su_ d z) (su_ q z)))
     exact At.res (.inl z) z (.tmp z .nil) ⟨z, (se_ aA z z)⟩
    ·refine WC.condF' z p (sk (At.inBlock (th (rg (wY (ym z) z (wY (Y.add_i z z) z ?_))))))
     obtain ⟨aJ, aC, h⟩ := lt1 h
     refine WL.yE (ya z) (congrArg vi aC.symm) z (nl ?_)
     exact At.round (aJ, X) aG (Nat.lt_succ_self _) ⟨next1 h l, (tr_ (su_ c z) (tr_ (su_ d z) (su_ q z)))⟩ (.cons z (.cons z (.cons z .nil)))
   ·refine WC.condF' z m (WC.exit (At.thenX (At.loopX ?_)))
    exact At.hitB (σ := Own) D ⟨brk1 h l, (su_ c z)⟩ .nil
  ·rintro aK aD ⟨rfl, L⟩
   replace h := flowK_go C
   refine (show At _ _ _ [] _ from ?_)
   refine At.inBlockHit (th (sq (rg (wY (ya z) z (nl (th (rt ?_)))))))
   obtain rfl := some1 h
   have aE : Stp [] (Lg.O0 A) w aK aD := (su_ L z)
   exact At.res (.inl z) z (.tmp z .nil) ⟨z, (se_ aE z z)⟩
theorem c_law36_RollupTwice {A : Nat → Prop} {a0 : List api_Point} {v0 : Value} {a1 : Int} {a2 : Int} {w : World} (hs0 : Sl rep_api_Point w A v0 a0) {r0 : Bool} (h : law36_RollupTwice a0 a1 a2 = some r0) : Rets Try.prog 3 [v0, vi a1, vi a2] w (fun v w' => v = vB r0 ∧ Ext w w') := by
 unfold law36_RollupTwice at h
 refine Rets.enter Try.func3 z z ?_
 have bd : Sl rep_api_Point w (imm (Lg.O0 A)) v0 a0 := (Sl.start hs0)
 refine (show WC _ _ _ _ [(0, v0), (1, vi a1), (2, vi a2)] _ from ?_)
 refine sq (rg (wY (ya z) z (nl (th (sq (sq (rg ?_)))))))
 obtain ⟨cR, bf, h⟩ := bnd h
 refine WL.call (vals := []) kok6 z z (c_law36_awake bf) ?_
 rintro cy bg ⟨rfl, bh⟩
 obtain ⟨ba, bY, bZ, j⟩ := adoptE (Lg.O0 A) (fun k => 1) bh
 refine wY (Y.not z) z (nl (th ?_))
 rcases cnd h with ⟨S, h⟩ | ⟨S, h⟩
 ·refine WC.condT' z S (sq (rg (wY (ya z) z (nl (th (rt (At.thenR ?_)))))))
  obtain rfl := some1 h
  have bi : Stp [] (Lg.O0 A) w ba bg := (su_ j z)
  exact At.res (.inl z) z (.tmp z .nil) ⟨z, (se_ bi z z)⟩
 ·refine WC.condF' z S (sk (th (sq (sq (rg (wY (ym z) z ?_))))))
  have T := bd.i j z z
  obtain ⟨c, bj, h⟩ := bnd h
  refine WL.call (vals := [v0, vi 20]) kok7 z z (c_ref12_Some (A := fun _ => True) (Sl.all T) bj) ?_
  rintro cz d ⟨rfl, bk⟩
  obtain ⟨M, b0, b1, l⟩ := adoptE ba (fun k => 1) bk
  refine wY (Y.not z) z (wY (ym z) z ?_)
  refine WL.cut 3 (σ := Unit) (fun _ w' => d = w') (fun _ => [(0, v0), (1, vi a1), (2, vi a2), (24, vB ((!c) || (decide (a1 < 1))))]) ?_ ?_
  ·refine WL.part 21 z (fun U => ?_) (fun U => ?_)
   ·refine WL.gS z z z z (WL.gS z z z z (wY (Y.pick (b := true) z z) z (WL.ren (v' := vB ((!c) || (decide (a1 < 1)))) 24 z (congrArg vB (orT U)) ?_)))
    exact nl (At.join () z (.cons z (.cons z (.cons z (.cons z .nil)))))
   ·refine ug z z (wY (ym z) z (ug z z (wY (Y.lss_i z z) z (wY (Y.pick (b := false) z z) z (WL.ren (v' := vB ((!c) || (decide (a1 < 1)))) 24 z (congrArg vB (orF U)) ?_)))))
    exact nl (At.join () z (.cons z (.cons z (.cons z (.cons z .nil)))))
  ·rintro _ _ rfl
   refine (show WL _ _ _ _ _ [(0, v0), (1, vi a1), (2, vi a2), (24, vB ((!c) || (decide (a1 < 1))))] _ from ?_)
   refine wY (ym z) z ?_
   refine WL.cut 3 (σ := Unit) (fun _ w' => d = w') (fun _ => [(0, v0), (1, vi a1), (2, vi a2), (28, vB (((!c) || (decide (a1 < 1))) || (decide (a2 < 1))))]) ?_ ?_
   ·refine WL.part 25 z (fun V => ?_) (fun V => ?_)
    ·refine WL.gS z z z z (WL.gS z z z z (wY (Y.pick (b := true) z z) z (WL.ren (v' := vB (((!c) || (decide (a1 < 1))) || (decide (a2 < 1)))) 28 z (congrArg vB (orT V)) ?_)))
     exact nl (At.join () z (.cons z (.cons z (.cons z (.cons z .nil)))))
    ·refine ug z z (wY (ym z) z (ug z z (wY (Y.lss_i z z) z (wY (Y.pick (b := false) z z) z (WL.ren (v' := vB (((!c) || (decide (a1 < 1))) || (decide (a2 < 1)))) 28 z (congrArg vB (orF V)) ?_)))))
     exact nl (At.join () z (.cons z (.cons z (.cons z (.cons z .nil)))))
   ·rintro _ _ rfl
    refine (show WL _ _ _ _ _ [(0, v0), (1, vi a1), (2, vi a2), (28, vB (((!c) || (decide (a1 < 1))) || (decide (a2 < 1))))] _ from ?_)
    refine wY (ym z) z ?_
    refine WL.cut 3 (σ := Unit) (fun _ w' => d = w') (fun _ => [(0, v0), (1, vi a1), (2, vi a2), (32, vB ((((!c) || (decide (a1 < 1))) || (decide (a2 < 1))) || (decide (1048576 < a1))))]) ?_ ?_
    ·refine WL.part 29 z (fun W => ?_) (fun W => ?_)
     ·refine WL.gS z z z z (WL.gS z z z z (wY (Y.pick (b := true) z z) z (WL.ren (v' := vB ((((!c) || (decide (a1 < 1))) || (decide (a2 < 1))) || (decide (1048576 < a1)))) 32 z (congrArg vB (orT W)) ?_)))
      exact nl (At.join () z (.cons z (.cons z (.cons z (.cons z .nil)))))
     ·refine ug z z (wY (ym z) z (ug z z (wY (Y.gtr_i z z) z (wY (Y.pick (b := false) z z) z (WL.ren (v' := vB ((((!c) || (decide (a1 < 1))) || (decide (a2 < 1))) || (decide (1048576 < a1)))) 32 z (congrArg vB (orF W)) ?_)))))
      exact nl (At.join () z (.cons z (.cons z (.cons z (.cons z .nil)))))
    ·rintro _ _ rfl
     refine (show WL _ _ _ _ _ [(0, v0), (1, vi a1), (2, vi a2), (32, vB ((((!c) || (decide (a1 < 1))) || (decide (a2 < 1))) || (decide (1048576 < a1))))] _ from ?_)
     refine wY (ym z) z ?_
     refine WL.cut 3 (σ := Unit) (fun _ w' => d = w') (fun _ => [(0, v0), (1, vi a1), (2, vi a2), (36, vB (((((!c) || (decide (a1 < 1))) || (decide (a2 < 1))) || (decide (1048576 < a1))) || (decide (1048576 < a2))))]) ?_ ?_
     ·refine WL.part 33 z (fun X => ?_) (fun X => ?_)
      ·refine WL.gS z z z z (WL.gS z z z z (wY (Y.pick (b := true) z z) z (WL.ren (v' := vB (((((!c) || (decide (a1 < 1))) || (decide (a2 < 1))) || (decide (1048576 < a1))) || (decide (1048576 < a2)))) 36 z (congrArg vB (orT X)) ?_)))
       exact nl (At.join () z (.cons z (.cons z (.cons z (.cons z .nil)))))
      ·refine ug z z (wY (ym z) z (ug z z (wY (Y.gtr_i z z) z (wY (Y.pick (b := false) z z) z (WL.ren (v' := vB (((((!c) || (decide (a1 < 1))) || (decide (a2 < 1))) || (decide (1048576 < a1))) || (decide (1048576 < a2)))) 36 z (congrArg vB (orF X)) ?_)))))
       exact nl (At.join () z (.cons z (.cons z (.cons z (.cons z .nil)))))
     ·rintro _ _ rfl
      refine (show WL _ _ _ _ _ [(0, v0), (1, vi a1), (2, vi a2), (36, vB (((((!c) || (decide (a1 < 1))) || (decide (a2 < 1))) || (decide (1048576 < a1))) || (decide (1048576 < a2))))] _ from ?_)
      refine wY (ym z) z ?_
      refine WL.cut 4 (σ := Unit) (fun _ w' => d = w') (fun _ => [(0, v0), (1, vi a1), (2, vi a2), (41, vB ((((((!c) || (decide (a1 < 1))) || (decide (a2 < 1))) || (decide (1048576 < a1))) || (decide (1048576 < a2))) || (decide ((a0.length : Int) = 0))))]) ?_ ?_
      ·refine WL.part 37 z (fun Z => ?_) (fun Z => ?_)
       ·refine WL.gS z z z z (WL.gS z z z z (WL.gS z z z z (wY (Y.pick (b := true) z z) z (WL.ren (v' := vB ((((((!c) || (decide (a1 < 1))) || (decide (a2 < 1))) || (decide (1048576 < a1))) || (decide (1048576 < a2))) || (decide ((a0.length : Int) = 0)))) 41 z (congrArg vB (orT Z)) ?_))))
        exact nl (At.join () z (.cons z (.cons z (.cons z (.cons z .nil)))))
       ·refine ug z z (wY (ym z) z (ug z z ?_))
        have bl := T.i l z z
        refine wY (Y.len ty22 z bl) z (ug z z (wY (Y.eql_i z z) z (wY (Y.pick (b := false) z z) z (WL.ren (v' := vB ((((((!c) || (decide (a1 < 1))) || (decide (a2 < 1))) || (decide (1048576 < a1))) || (decide (1048576 < a2))) || (decide ((a0.length : Int) = 0)))) 41 z (congrArg vB (orF Z)) ?_))))
        exact nl (At.join () z (.cons z (.cons z (.cons z (.cons z .nil)))))
      ·rintro _ _ rfl
       refine (show WL _ _ _ _ _ [(0, v0), (1, vi a1), (2, vi a2), (41, vB ((((((!c) || (decide (a1 < 1))) || (decide (a2 < 1))) || (decide (1048576 < a1))) || (decide (1048576 < a2))) || (decide ((a0.length : Int) = 0))))] _ from ?_)
       refine nl (th ?_)
       rcases cnd h with ⟨aa, h⟩ | ⟨aa, h⟩
       ·refine WC.condT' z aa (sq (rg (wY (ya z) z (nl (th (rt (At.thenR ?_)))))))
        obtain rfl := some1 h
        have bm : Stp [] (Lg.O0 A) w M d := (tr_ (su_ j z) (su_ l z))
        exact At.res (.inl z) z (.tmp z .nil) ⟨z, (se_ bm z z)⟩
       ·refine WC.condF' z aa (sk (th (sq (sq (rg (wY (ym z) z ?_))))))
        obtain ⟨bb, bn, h⟩ := bnd h
        have m := T.i l z z
        obtain ⟨cS, ci, cj, cA, bo, bp, bq, ab, az, br⟩ := Sl.at2 m bn
        obtain ⟨_, _, rfl, rfl, ⟨_, _, rfl, ⟨b2, rfl, cC⟩, ⟨_, _, rfl, rfl, ⟨_, _, rfl, rfl, ⟨_, _, rfl, rfl, ⟨_, _, rfl, rfl, ⟨_, _, rfl, rfl, ⟨_, _, rfl, rfl, ⟨_, _, rfl, rfl, ⟨_, _, rfl, rfl, ⟨_, _, rfl, ⟨_, _, rfl, rfl, ⟨_, _, rfl, rfl, ⟨_, _, rfl, ⟨_, _, rfl, rfl, ⟨b3, rfl, cD⟩⟩, ⟨_, _, rfl, rfl, ⟨b4, rfl, cE⟩⟩⟩⟩⟩, rfl⟩⟩⟩⟩⟩⟩⟩⟩⟩⟩⟩ := az
        replace ab : CellsAt _ _ _ (cp bb b2 b3 b4) := ab
        have aA := CAt.imm ab br
        refine wY (Y.indexAddr ty22 ty33 z bo z bp bq) z (wY (yf fo33_3 z) z (wY (yl ty3 z z (aA.at_.sub 3 [vi bb.Temp] z)) z (wY (Y.eql_i z z) z (wY (ym z) z ?_))))
        obtain ⟨b5, h, bs⟩ := bnd h
        refine WL.cut 20 (σ := Bool) (fun x w' => x = b5 ∧ d = w') (fun x => [(0, v0), (1, vi a1), (2, vi a2), (67, vB x)]) ?_ ?_
        ·rcases cnd h with ⟨ac, h⟩ | ⟨ac, h⟩
         ·refine WL.ren 47 z (congrArg vB ac) (ug z z (wY (ym z) z (ug z z ?_)))
          obtain ⟨bc, bt, h⟩ := bnd h
          obtain ⟨cT, ck, cl, cF, bu, bw, bx, ad, aC, bz⟩ := Sl.at2 m bt
          obtain ⟨_, _, rfl, rfl, ⟨_, _, rfl, ⟨b6, rfl, cG⟩, ⟨_, _, rfl, rfl, ⟨_, _, rfl, rfl, ⟨_, _, rfl, rfl, ⟨_, _, rfl, rfl, ⟨_, _, rfl, rfl, ⟨_, _, rfl, rfl, ⟨_, _, rfl, rfl, ⟨_, _, rfl, rfl, ⟨_, _, rfl, ⟨_, _, rfl, rfl, ⟨_, _, rfl, rfl, ⟨_, _, rfl, ⟨_, _, rfl, rfl, ⟨b7, rfl, cH⟩⟩, ⟨_, _, rfl, rfl, ⟨b8, rfl, cI⟩⟩⟩⟩⟩, rfl⟩⟩⟩⟩⟩⟩⟩⟩⟩⟩⟩ := aC
          replace ad : CellsAt _ _ _ (cp bc b6 b7 b8) := ad
          have aD := CAt.imm ad bz
          refine wY (Y.indexAddr ty22 ty33 z bu z bw bx) z (ug z z (wY (yf fo33_2 z) z (ug z z (wY (yl ty3 z z (aD.at_.sub 2 [vi bc.Kind] z)) z (ug z z (wY (Y.eql_i z z) z (ug z z (wY (ym z) z ?_))))))))
          obtain ⟨b9, h, bA⟩ := bnd h
          refine WL.cut 6 (σ := Bool) (fun x w' => x = b9 ∧ d = w') (fun x => [(0, v0), (1, vi a1), (2, vi a2), (47, vB true), (59, vB x)]) ?_ ?_
          ·rcases cnd h with ⟨ae, h⟩ | ⟨ae, h⟩
           ·refine WL.ren 53 z (congrArg vB ae) (WL.gS z z z z (WL.gS z z z z (WL.gS z z z z (WL.gS z z z z (WL.gS z z z z (ug z z (wY (Y.pick (b := true) z z) z ?_)))))))
            exact nl (At.join (σ := Bool) true ⟨some1 h, z⟩ (.cons z (.cons z (.cons z (.cons z (.cons z .nil))))))
           ·refine WL.ren 53 z (congrArg vB ae) (ug z z (wY (ym z) z (ug z z ?_)))
            obtain ⟨ap, bB, h⟩ := bnd h
            obtain ⟨cU, ca, cm, cJ, bC, bD, bE, af, aE, aF⟩ := Sl.at2 m bB
            obtain ⟨_, _, rfl, rfl, ⟨_, _, rfl, ⟨cb, rfl, cK⟩, ⟨_, _, rfl, rfl, ⟨_, _, rfl, rfl, ⟨_, _, rfl, rfl, ⟨_, _, rfl, rfl, ⟨_, _, rfl, rfl, ⟨_, _, rfl, rfl, ⟨_, _, rfl, rfl, ⟨_, _, rfl, rfl, ⟨_, _, rfl, ⟨_, _, rfl, rfl, ⟨_, _, rfl, rfl, ⟨_, _, rfl, ⟨_, _, rfl, rfl, ⟨cc, rfl, cL⟩⟩, ⟨_, _, rfl, rfl, ⟨cd, rfl, cn⟩⟩⟩⟩⟩, rfl⟩⟩⟩⟩⟩⟩⟩⟩⟩⟩⟩ := aE
            replace af : CellsAt _ _ _ (cp ap cb cc cd) := af
            have aq := CAt.imm af aF
            refine wY (Y.indexAddr ty22 ty33 z bC z bD bE) z (ug z z (wY (yf fo33_2 z) z (ug z z (wY (yl ty3 z z (aq.at_.sub 2 [vi ap.Kind] z)) z (ug z z (wY (Y.eql_i z z) z (ug z z (wY (Y.pick (b := false) z z) z ?_))))))))
            exact nl (At.join (σ := Bool) (decide (ap.Kind = 5)) ⟨some1 h, z⟩ (.cons z (.cons z (.cons z (.cons z (.cons z .nil))))))
          ·rintro ce _ ⟨rfl, rfl⟩
           replace h := bA
           try dsimp only at h
           refine (show WL _ _ _ _ _ [(0, v0), (1, vi a1), (2, vi a2), (47, vB true), (59, vB ce)] _ from ?_)
           refine ug z z (wY (ym z) z ?_)
           obtain ⟨bF, h, aG⟩ := bnd h
           refine WL.cut 6 (σ := Bool) (fun x w' => x = bF ∧ d = w') (fun x => [(0, v0), (1, vi a1), (2, vi a2), (47, vB true), (66, vB x)]) ?_ ?_
           ·rcases cnd h with ⟨q, h⟩ | ⟨q, h⟩
            ·refine WL.ren 60 z (congrArg vB q) (WL.gS z z z z (WL.gS z z z z (WL.gS z z z z (WL.gS z z z z (WL.gS z z z z (ug z z (wY (Y.pick (b := true) z z) z ?_)))))))
             exact nl (At.join (σ := Bool) true ⟨some1 h, z⟩ (.cons z (.cons z (.cons z (.cons z (.cons z .nil))))))
            ·refine WL.ren 60 z (congrArg vB q) (ug z z (wY (ym z) z (ug z z ?_)))
             obtain ⟨ah, aH, h⟩ := bnd h
             obtain ⟨cM, cf, cg, co, aI, aJ, aK, r, ar, aL⟩ := Sl.at2 m aH
             obtain ⟨_, _, rfl, rfl, ⟨_, _, rfl, ⟨bG, rfl, cq⟩, ⟨_, _, rfl, rfl, ⟨_, _, rfl, rfl, ⟨_, _, rfl, rfl, ⟨_, _, rfl, rfl, ⟨_, _, rfl, rfl, ⟨_, _, rfl, rfl, ⟨_, _, rfl, rfl, ⟨_, _, rfl, rfl, ⟨_, _, rfl, ⟨_, _, rfl, rfl, ⟨_, _, rfl, rfl, ⟨_, _, rfl, ⟨_, _, rfl, rfl, ⟨bH, rfl, cr⟩⟩, ⟨_, _, rfl, rfl, ⟨bI, rfl, cs⟩⟩⟩⟩⟩, rfl⟩⟩⟩⟩⟩⟩⟩⟩⟩⟩⟩ := ar
             replace r : CellsAt _ _ _ (cp ah bG bH bI) := r
             have au := CAt.imm r aL
             refine wY (Y.indexAddr ty22 ty33 z aI z aJ aK) z (ug z z (wY (yf fo33_2 z) z (ug z z (wY (yl ty3 z z (au.at_.sub 2 [vi ah.Kind] z)) z (ug z z (wY (Y.eql_i z z) z (ug z z (wY (Y.pick (b := false) z z) z ?_))))))))
             exact nl (At.join (σ := Bool) (decide (ah.Kind = 4)) ⟨some1 h, z⟩ (.cons z (.cons z (.cons z (.cons z (.cons z .nil))))))
           ·rintro av _ ⟨rfl, rfl⟩
            replace h := aG
            try dsimp only at h
            refine (show WL _ _ _ _ _ [(0, v0), (1, vi a1), (2, vi a2), (47, vB true), (66, vB av)] _ from ?_)
            refine wY (Y.pick (b := true) z z) z ?_
            exact nl (At.join (σ := Bool) av ⟨some1 h, z⟩ (.cons z (.cons z (.cons z (.cons z .nil)))))
         ·refine WL.ren 47 z (congrArg vB ac) (WL.gS z z z z (WL.gS z z z z (WL.gS z z z z (WL.gS z z z z (WL.gS z z z z (WL.gS z z z z (WL.gS z z z z (WL.gS z z z z (WL.gS z z z z ?_)))))))))
          refine WL.gS z z z z (WL.gS z z z z (WL.gS z z z z (WL.gS z z z z (WL.gS z z z z (WL.gS z z z z (WL.gS z z z z (WL.gS z z z z (WL.gS z z z z (WL.gS z z z z ?_)))))))))
          refine wY (Y.pick (b := false) z z) z ?_
          exact nl (At.join (σ := Bool) false ⟨some1 h, z⟩ (.cons z (.cons z (.cons z (.cons z .nil)))))
        ·rintro ch _ ⟨rfl, rfl⟩
         replace h := bs
         try dsimp only at h
         refine (show WL _ _ _ _ _ [(0, v0), (1, vi a1), (2, vi a2), (67, vB ch)] _ from ?_)
         refine nl (th ?_)
         rcases cnd h with ⟨t, h⟩ | ⟨t, h⟩
         ·refine WC.condT' z t (sq (rg (wY (ya z) z (nl (th (rt (At.thenR ?_)))))))
          obtain rfl := some1 h
          have aM : Stp [] (Lg.O0 A) w M d := (tr_ (su_ j z) (su_ l z))
          exact At.res (.inl z) z (.tmp z .nil) ⟨z, (se_ aM z z)⟩
         ·refine WC.condF' z t (sk (th (sq (rg (wY (ym z) z (wY (ym z) z ?_))))))
          obtain ⟨⟨bJ, cN, C⟩, aN, h⟩ := bnd h
          refine WL.call (vals := [v0, vi a1]) kok8 z z (c_rollup_Roll (A := imm M) m aN) ?_
          rintro ct aO ⟨D, rfl, aP, bK⟩
          obtain ⟨E, aj, ak, n⟩ := adoptE M (fun k => 1) aP
          have aQ : Sl rep_api_Point aO (imm E) D bJ := Sl.adoptI (O := M) bK (fun _ hk => hk) (fun _ _ => Nat.le_refl _) aj ak
          refine wY (ym z) z (wY (yx z z) z (wY (yx z z) z (wY (yx z z) z (wY (ya z) z (wY (ya z) z (wY (ya z) z (nl (th (sq ?_)))))))))
          refine rg (wY (ym z) z (wY (ym z) z (wY (ym z) z (wY (Y.mul_i z z) z ?_))))
          have aR := m.i n z z
          obtain ⟨⟨bL, cO, F⟩, aS, h⟩ := bnd h
          refine WL.call (vals := [v0, vi (w64 (a1 * a2))]) kok8 z z (c_rollup_Roll (A := imm E) aR aS) ?_
          rintro cu G ⟨H, rfl, aT, bM⟩
          obtain ⟨o, al, am, p⟩ := adoptE E (fun k => 1) aT
          have aU : Sl rep_api_Point G (imm o) H bL := Sl.adoptI (O := E) bM (fun _ hk => hk) (fun _ _ => Nat.le_refl _) al am
          refine wY (ym z) z (wY (yx z z) z (wY (yx z z) z (wY (yx z z) z (wY (ya z) z (wY (ya z) z (wY (ya z) z (nl (th (sq ?_)))))))))
          refine sq (rg (wY (ym z) z (wY (Y.neq_i z z) z (wY (ym z) z ?_))))
          refine WL.cut 3 (σ := Unit) (fun _ w' => G = w') (fun _ => [(1, vi a1), (2, vi a2), (7, D), (10, H), (89, vB ((!decide (C = 0)) || (!decide (F = 0))))]) ?_ ?_
          ·refine WL.part 86 z (fun I => ?_) (fun I => ?_)
           ·refine WL.gS z z z z (WL.gS z z z z (wY (Y.pick (b := true) z z) z (WL.ren (v' := vB ((!decide (C = 0)) || (!decide (F = 0)))) 89 z (congrArg vB (orT I)) ?_)))
            exact nl (At.join () z (.cons z (.cons z (.cons z (.cons z (.cons z .nil))))))
           ·refine ug z z (wY (ym z) z (ug z z (wY (Y.neq_i z z) z (wY (Y.pick (b := false) z z) z (WL.ren (v' := vB ((!decide (C = 0)) || (!decide (F = 0)))) 89 z (congrArg vB (orF I)) ?_)))))
            exact nl (At.join () z (.cons z (.cons z (.cons z (.cons z (.cons z .nil))))))
          ·rintro _ _ rfl
           refine (show WL _ _ _ _ _ [(1, vi a1), (2, vi a2), (7, D), (10, H), (89, vB ((!decide (C = 0)) || (!decide (F = 0))))] _ from ?_)
           refine nl (th ?_)
           rcases cnd h with ⟨J, h⟩ | ⟨J, h⟩
           ·refine WC.condT' z J (sq (rg (wY (ya z) z (nl (th (rt (At.thenR ?_)))))))
            obtain rfl := some1 h
            have aW : Stp [] (Lg.O0 A) w o G := (tr_ (su_ j z) (tr_ (su_ l z) (tr_ (su_ n z) (su_ p z))))
            exact At.res (.inl z) z (.tmp z .nil) ⟨z, (se_ aW z z)⟩
           ·refine WC.condF' z J (sk (th (sq (rg (wY (ym z) z (wY (ym z) z (wY (ym z) z (wY (Y.mul_i z z) z ?_))))))))
            have aX := aQ.i p z z
            obtain ⟨⟨bO, cP, cQ⟩, aY, h⟩ := bnd h
            refine WL.call (vals := [D, vi (w64 (a1 * a2))]) kok8 z z (c_rollup_Roll (A := imm o) aX aY) ?_
            rintro cv ai ⟨ax, rfl, aZ, bP⟩
            obtain ⟨K, an, ao, P⟩ := adoptE o (fun k => 1) aZ
            have a3 : Sl rep_api_Point ai (imm K) ax bO := Sl.adoptI (O := o) bP (fun _ hk => hk) (fun _ _ => Nat.le_refl _) an ao
            refine wY (ym z) z (wY (yx z z) z (wY (yx z z) z (wY (yx z z) z (wY (ya z) z (wY (ya z) z (wY (ya z) z (nl (th (sq ?_)))))))))
            refine rg (wY (ym z) z (wY (Y.eql_i z z) z (wY (ym z) z ?_)))
            obtain ⟨bQ, h, a4⟩ := bnd h
            refine WL.cut 4 (σ := (Bool × Own)) (fun x w' => x.1 = bQ ∧ Stp [] K ai x.2 w') (fun x => [(105, vB x.1)]) ?_ ?_
            ·rcases cnd h with ⟨L, h⟩ | ⟨L, h⟩
             ·refine WL.ren 101 z (congrArg vB L) (ug z z (wY (ym z) z (ug z z (wY (ym z) z (ug z z ?_)))))
              have a5 := aU.i P z z
              obtain ⟨bR, a6, h⟩ := bnd h
              refine WL.call (vals := [ax, H]) kok9 z z (c_ref12_SameAll (A := fun _ => True) (Sl.all a3) (Sl.all a5) a6) ?_
              rintro cw cx ⟨rfl, a7⟩
              obtain ⟨bS, bW, bX, ay⟩ := adoptE K (fun k => 1) a7
              refine wY (Y.pick (b := true) z z) z ?_
              exact nl (At.join (σ := (Bool × Own)) (bR, bS) ⟨some1 h, (su_ ay z)⟩ (.cons z .nil))
             ·refine WL.ren 101 z (congrArg vB L) (WL.gS z z z z (WL.gS z z z z (WL.gS z z z z (wY (Y.pick (b := false) z z) z ?_))))
              exact nl (At.join (σ := (Bool × Own)) (false, K) ⟨some1 h, (sr_ _ _ _)⟩ (.cons z .nil))
            ·rintro ⟨bT, bU⟩ a8 ⟨rfl, Q⟩
             replace h := a4
             try dsimp only at h Q
             refine (show WL _ _ _ _ _ [(105, vB bT)] _ from ?_)
             refine wY (ya z) z (nl (th (rt ?_)))
             obtain rfl := some1 h
             have a9 : Stp [] (Lg.O0 A) w bU a8 := (tr_ (su_ j z) (tr_ (su_ l z) (tr_ (su_ n z) (tr_ (su_ p z) (tr_ (su_ P z) (su_ Q z))))))
             exact At.res (.inl z) z (.tmp z .nil) ⟨z, (se_ a9 z z)⟩
end Go.Lg
