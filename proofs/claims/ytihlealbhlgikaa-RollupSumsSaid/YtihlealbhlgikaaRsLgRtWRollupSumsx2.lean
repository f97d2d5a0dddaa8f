/- The walks of RollupSums and of what it calls, printed by gen.py. -/
import Derived.Test.YtihlealbhlgikaaRsLgRtWRollupSumsx1
set_option linter.unusedVariables false
namespace Go.Lg
open Go Go.Proofs
set_option maxRecDepth 100000
set_option maxHeartbeats 4000000
theorem c_rollup_join {A : Nat → Prop} {v0_1 : Value} {v0_13 : Value} {v0_15 : Value} {a0 : api_Point} {v1_1 : Value} {v1_13 : Value} {v1_15 : Value} {a1 : api_Point} {w : World} (hs0_1 : Sl rep_api_Pair w A v0_1 a0.Attrs) (hs0_13 : Sl Rep.u w A v0_13 a0.Hist.Pos.Counts) (hs0_15 : Sl Rep.u w A v0_15 a0.Hist.Neg.Counts) (hs1_1 : Sl rep_api_Pair w A v1_1 a1.Attrs) (hs1_13 : Sl Rep.u w A v1_13 a1.Hist.Pos.Counts) (hs1_15 : Sl Rep.u w A v1_15 a1.Hist.Neg.Counts) {r0 : api_Point} {r1 : Int} (h : rollup_join a0 a1 = some (r0, r1)) : Rets Try.prog 22 [ag (cp a0 v0_1 v0_13 v0_15), ag (cp a1 v1_1 v1_13 v1_15)] w (fun v w' => ∃ (bg : Value) (aW : Value) (aX : Value), v = Value.tuple (List.toArray [ag (cp r0 bg aW aX), vi r1]) ∧ Ext w w' ∧ Sl rep_api_Pair w' (fun k => A k ∨ w.heap.size ≤ k) bg r0.Attrs ∧ Sl Rep.u w' (fun k => A k ∨ w.heap.size ≤ k) aW r0.Hist.Pos.Counts ∧ Sl Rep.u w' (fun k => A k ∨ w.heap.size ≤ k) aX r0.Hist.Neg.Counts) := by
 unfold rollup_join at h
 refine Rets.enter Try.func22 z z ?_
 have fs : Sl rep_api_Pair w (imm (Lg.O0 A)) v0_1 a0.Attrs := (Sl.start hs0_1)
 have bh : Sl Rep.u w (imm (Lg.O0 A)) v0_13 a0.Hist.Pos.Counts := (Sl.start hs0_13)
 have bi : Sl Rep.u w (imm (Lg.O0 A)) v0_15 a0.Hist.Neg.Counts := (Sl.start hs0_15)
 have ft : Sl rep_api_Pair w (imm (Lg.O0 A)) v1_1 a1.Attrs := (Sl.start hs1_1)
 have fu : Sl Rep.u w (imm (Lg.O0 A)) v1_13 a1.Hist.Pos.Counts := (Sl.start hs1_13)
 have fv : Sl Rep.u w (imm (Lg.O0 A)) v1_15 a1.Hist.Neg.Counts := (Sl.start hs1_15)
 refine (show WC _ _ _ _ [(0, ag (cp a0 v0_1 v0_13 v0_15)), (1, ag (cp a1 v1_1 v1_13 v1_15))] _ from ?_)
 refine sq (rg ?_)
 have fw := h
 obtain ⟨f0, f1, f2, rfl⟩ := fs.shape
 have h := fw
 have fx := h
 obtain ⟨aY, aZ, a2, rfl⟩ := bh.shape
 have h := fx
 have fy := h
 obtain ⟨a3, a4, a5, rfl⟩ := bi.shape
 have h := fy
 refine WL.box (O := (Lg.O0 A)) 11 (cp a0 (vl f0 f1 f2) (vl aY aZ a2) (vl a3 a4 a5)) z z z ?_
 intro fn f3 gz T am
 have bj := ft.i T z z
 have fz := h
 obtain ⟨aF, aG, aH, rfl⟩ := bj.shape
 have h := fz
 have bk := fu.i T z z
 have fA := h
 obtain ⟨aI, aJ, aK, rfl⟩ := bk.shape
 have h := fA
 have bl := fv.i T z z
 have fB := h
 obtain ⟨aL, aM, aN, rfl⟩ := bl.shape
 have h := fB
 refine WL.box (O := f3) 12 (cp a1 (vl aF aG aH) (vl aI aJ aK) (vl aL aM aN)) z z z ?_
 intro fo f4 gB E fC
 refine WL.alloc (O := f4) 13 [vs [], sn, vi 0, vi 0, vB false, vi 0, vi 0, vi 0, vu 0, vu 0, vi 0, vu 0, vi 0, sn, vi 0, sn, vi 0] ty33 z z ?_
 intro fp f5 gC D bm
 refine wY (ya z) z (nl (th (sq (rg ?_))))
 have an := fC.st D z
 refine wY (yL ty33 z z (an.cells 0 (cp a1 (vl aF aG aH) (vl aI aJ aK) (vl aL aM aN)) z) z) z ?_
 have bn := (bj.i E z z).i D z z
 have bo := (bk.i E z z).i D z z
 have bp := (bl.i E z z).i D z z
 obtain ⟨a, fH, h⟩ := bnd h
 refine WL.call (vals := [ag (cp a1 (vl aF aG aH) (vl aI aJ aK) (vl aL aM aN))]) kok21 z z (c_point_Clone (A := fun _ => True) (a0 := a1) (Sl.all bn) (Sl.all bo) (Sl.all bp) fH) ?_
 rintro gE aQ ⟨a6, bq, fq, rfl, fI, f6, f7, f8, f9, ga, gb⟩
 obtain ⟨a7, gc, aj, p⟩ := adoptE f5 (fun k => if ob a6 = some k then 14 else if ob bq = some k then 15 else if ob fq = some k then 16 else 1) fI
 have fJ : OwnSl 14 rep_api_Pair 65 a7 aQ a6 a.Attrs := RowF.adopt 14 flat_api_Pair f6 aj (fun k hk => if_pos hk)
 have fK : OwnSl 15 Rep.u 26 a7 aQ bq a.Hist.Pos.Counts := RowF.adopt 15 Flat.u f7 aj (fun k hk => (if_neg (fun (e : ob a6 = some k) => f9 k e hk)).trans (if_pos hk))
 have fL : OwnSl 16 Rep.u 26 a7 aQ fq a.Hist.Neg.Counts := RowF.adopt 16 Flat.u f8 aj (fun k hk => (if_neg (fun (e : ob a6 = some k) => ga k e hk)).trans ((if_neg (fun (e : ob bq = some k) => gb k e hk)).trans (if_pos hk)))
 refine WL.alloc (O := a7) 17 [vs [], sn, vi 0, vi 0, vB false, vi 0, vi 0, vi 0, vu 0, vu 0, vi 0, vu 0, vi 0, sn, vi 0, sn, vi 0] ty33 z z ?_
 intro aO a8 gG n fN
 have aR := fJ.st n z z z
 have fO := h
 obtain ⟨L, M, P, rfl⟩ := aR.shape
 have h := fO
 have br := fK.st n z z z
 have bC := h
 obtain ⟨Q, S, F, rfl⟩ := br.shape
 have h := bC
 have a9 := fL.st n z z z
 have bD := h
 obtain ⟨G, H, I, rfl⟩ := a9.shape
 have h := bD
 refine WL.store (v := ag (cp a (vl L M P) (vl Q S F) (vl G H I))) (cells' := (cp a (vl L M P) (vl Q S F) (vl G H I))) ty33 z z fN z (le_ z) z z ?_
 intro gd d bE
 refine nl (th (sq (WC.drawH [17] [0, 1, 2, 3, 4, 5, 6, 7, 8, 9] a8 11 fmix z (by kernel_rfl) ?_)))
 intro ge c
 refine WD.y 0 z (by kernel_rfl) (fun _ _ _ => yf fo33_5 z) z (WD.y 1 z (by kernel_rfl) (fun gf gH bs => have bF := am.st E z; have bG := bF.st D z; have bH := bG.st p z; have bI := bH.st n z; have bJ := bI.st d z; have bK := bJ.st c z; have bL := bK.st bs z; yl ty3 z z (bL.cell 5 _ z)) z (WD.y 2 z (by kernel_rfl) (fun _ _ _ => yf fo33_11 z) z (WD.y 3 z (by kernel_rfl) (fun gg gI bt => have bM := am.st E z; have bO := bM.st D z; have bP := bO.st p z; have bQ := bP.st n z; have bR := bQ.st d z; have bS := bR.st c z; have bT := bS.st bt z; yl ty3 z z (bT.cell 16 _ z)) z (WD.y 4 z (by kernel_rfl) (fun _ _ _ => yf fo33_11 z) z (WD.y 5 z (by kernel_rfl) (fun gh gJ bu => have bU := an.st p z; have bW := bU.st n z; have bX := bW.st d z; have bY := bX.st c z; have bZ := bY.st bu z; yl ty3 z z (bZ.cell 16 _ z)) z (WD.y 6 z (by kernel_rfl) (fun _ _ _ => Y.or_i z z) z (WD.y 7 z (by kernel_rfl) (fun _ _ _ => yf fo33_5 z) z (WD.heavy 8 z (by kernel_rfl) ?_))))))))
 have b0 := bE.st c z
 refine WL.store (v := vi a0.Start) (cells' := [vs a.Name, (vl L M P), vi a.Kind, vi a.Temp, vB a.Mono, vi a0.Start, vi a.Time, vi a.Int_, vu a.Re, vu a.Im, vi a.Hist.Scale, vu a.Hist.Zero, vi a.Hist.Pos.Offset, (vl Q S F), vi a.Hist.Neg.Offset, (vl G H I), vi a.Flags]) ty3 z z b0 z (le_ z) z z ?_
 intro gi j b1
 refine nl (At.dq (su_ j z) (WD.y 9 z (by kernel_rfl) (fun _ _ _ => yf fo33_11 z) z (WD.phase [17] [0, 1, 2, 3, 4, 5, 6, 7, 8, 9, 10] (by kernel_rfl) (by kernel_rfl) (WD.heavy 10 z (by kernel_rfl) ?_))))
 obtain ⟨J, b2, h⟩ := lt1 h
 refine WL.ren 16 z (congrArg vi b2.symm) (WL.store (v := vi J) (cells' := [vs a.Name, (vl L M P), vi a.Kind, vi a.Temp, vB a.Mono, vi a0.Start, vi a.Time, vi a.Int_, vu a.Re, vu a.Im, vi a.Hist.Scale, vu a.Hist.Zero, vi a.Hist.Pos.Offset, (vl Q S F), vi a.Hist.Neg.Offset, (vl G H I), vi J]) ty3 z z b1 z (le_ z) z z ?_)
 intro b3 l ba
 refine nl (At.dq (su_ l z) (WD.done_ (by kernel_rfl) (th (sq ?_))))
 obtain ⟨fP, h, b4⟩ := bnd h
 refine WC.join (σ := (Int × Own)) (fun x w' => x.1 = fP ∧ Stp [17] a8 b3 x.2 w' ∧ Blk 17 x.2 w' aO 33 [vs a.Name, (vl L M P), vi a.Kind, vi a.Temp, vB a.Mono, vi x.1, vi a.Time, vi a.Int_, vu a.Re, vu a.Im, vi a.Hist.Scale, vu a.Hist.Zero, vi a.Hist.Pos.Offset, (vl Q S F), vi a.Hist.Neg.Offset, (vl G H I), vi J]) (fun x => [(2, pt fn 0), (3, pt fo 0), (4, pt fp 0), (6, pt aO 0)]) ?_ ?_
 ·refine sq (rg (wY (yf fo33_2 z) z ?_))
  have cc := (((((((am.st E z).st D z).st p z).st n z).st d z).st c z).st j z).st l z
  refine wY (yl ty3 z z (cc.cell 2 _ z)) z (wY (Y.eql_i z z) z (nl (th ?_)))
  rcases cnd h with ⟨ao, h⟩ | ⟨ao, h⟩
  ·refine WC.condT' z ao (rg (wY (yf fo33_5 z) z ?_))
   have ci := (((((an.st p z).st n z).st d z).st c z).st j z).st l z
   refine wY (yl ty3 z z (ci.cell 5 _ z)) z (wY (yf fo33_5 z) z (WL.store (v := vi a1.Start) (cells' := [vs a.Name, (vl L M P), vi a.Kind, vi a.Temp, vB a.Mono, vi a1.Start, vi a.Time, vi a.Int_, vu a.Re, vu a.Im, vi a.Hist.Scale, vu a.Hist.Zero, vi a.Hist.Pos.Offset, (vl Q S F), vi a.Hist.Neg.Offset, (vl G H I), vi J]) ty3 z z ba z (le_ z) z z ?_))
   intro gj bw cj
   refine nl ?_
   exact At.join (σ := (Int × Own)) (a1.Start, a8) ⟨some1 h, (su_ bw z), cj⟩ (.cons z (.cons z (.cons z (.cons z .nil))))
  ·refine WC.condF' z ao (sk ?_)
   exact At.join (σ := (Int × Own)) (a0.Start, a8) ⟨some1 h, (sr_ _ _ _), ba⟩ (.cons z (.cons z (.cons z (.cons z .nil))))
 ·rintro ⟨U, fQ⟩ gk ⟨rfl, m, ap⟩
  replace h := b4
  try dsimp only at h m ap
  refine (show At _ _ _ [(2, pt fn 0), (3, pt fo 0), (4, pt fp 0), (6, pt aO 0)] _ from ?_)
  refine th (sq (sq (rg (wY (yf fo33_3 z) z ?_))))
  have X := ((((((((am.st E z).st D z).st p z).st n z).st d z).st c z).st j z).st l z).st m z
  refine wY (yl ty3 z z (X.cell 3 _ z)) z (wY (Y.neq_i z z) z (nl (th ?_)))
  rcases cnd h with ⟨aq, h⟩ | ⟨aq, h⟩
  ·refine WC.condT' z aq (sq (rg (wY (yL ty33 z z (ap.cells 0 [vs a.Name, (vl L M P), vi a.Kind, vi a.Temp, vB a.Mono, vi U, vi a.Time, vi a.Int_, vu a.Re, vu a.Im, vi a.Hist.Scale, vu a.Hist.Zero, vi a.Hist.Pos.Offset, (vl Q S F), vi a.Hist.Neg.Offset, (vl G H I), vi J] z) z) z ?_)))
   have cz := ((((((bm.st p z).st n z).st d z).st c z).st j z).st l z).st m z
   refine WL.store (v := ag [vs a.Name, (vl L M P), vi a.Kind, vi a.Temp, vB a.Mono, vi U, vi a.Time, vi a.Int_, vu a.Re, vu a.Im, vi a.Hist.Scale, vu a.Hist.Zero, vi a.Hist.Pos.Offset, (vl Q S F), vi a.Hist.Neg.Offset, (vl G H I), vi J]) (cells' := [vs a.Name, (vl L M P), vi a.Kind, vi a.Temp, vB a.Mono, vi U, vi a.Time, vi a.Int_, vu a.Re, vu a.Im, vi a.Hist.Scale, vu a.Hist.Zero, vi a.Hist.Pos.Offset, (vl Q S F), vi a.Hist.Neg.Offset, (vl G H I), vi J]) ty33 z z cz z (le_ z) z z ?_
   intro cA Z cC
   refine wY (ya z) z (nl (th (rt (At.thenR ?_))))
   obtain ⟨rfl, rfl⟩ := tup2 h
   have cI := (((((aR.st d z z z).st c z z z).st j z z z).st l z z z).st m z z z).st Z z z z
   obtain ⟨gK, aa, cJ⟩ := OwnSl.giveF rfl flat_api_Pair cI
   have cQ := ((((((br.st d z z z).st c z z z).st j z z z).st l z z z).st m z z z).st Z z z z).st aa z z z
   obtain ⟨gL, ab, cR⟩ := OwnSl.giveF rfl Flat.u cQ
   have cZ := (((((((a9.st d z z z).st c z z z).st j z z z).st l z z z).st m z z z).st Z z z z).st aa z z z).st ab z z z
   obtain ⟨fR, ac, c0⟩ := OwnSl.giveF rfl Flat.u cZ
   have af : Stp [13, 14, 15, 16, 17] (Lg.O0 A) w fR cA := (tr_ (su_ T z) (tr_ (su_ E z) (tr_ (su_ D z) (tr_ (su_ p z) (tr_ (su_ n z) (tr_ (su_ d z) (tr_ (su_ c z) (tr_ (su_ j z) (tr_ (su_ l z) (tr_ (su_ m z) (tr_ (su_ Z z) (tr_ (su_ aa z) (tr_ (su_ ab z) (su_ ac z))))))))))))))
   have c2 := (cJ.f ab z).f ac z
   have c3 := cR.f ac z
   have c6 := ((cC.st aa z).st ab z).st ac z
   exact At.res (.inl z) z (.cell z (c6.runAg 0 [vs a.Name, (vl L M P), vi a.Kind, vi a.Temp, vB a.Mono, vi U, vi a.Time, vi a.Int_, vu a.Re, vu a.Im, vi a.Hist.Scale, vu a.Hist.Zero, vi a.Hist.Pos.Offset, (vl Q S F), vi a.Hist.Neg.Offset, (vl G H I), vi J] ty33 z z z) (.tmp z .nil)) ⟨(vl L M P), (vl Q S F), (vl G H I), z, (se_ af z z), (Sl.outI (Sl.mono c2 frs_imm) af low0 O0_A), (Sl.outI (Sl.mono c3 frs_imm) af low0 O0_A), (Sl.outI (Sl.mono c0 frs_imm) af low0 O0_A)⟩
  ·refine WC.condF' z aq (sk (th (sq (WC.drawH [17] [0, 1, 2, 3, 4, 5, 6, 7, 8, 9, 10, 11, 12, 13, 14] fQ 16 fmix z (by kernel_rfl) ?_))))
   intro gl o
   refine WD.y 0 z (by kernel_rfl) (fun _ _ _ => yf fo33_7 z) z (WD.y 1 z (by kernel_rfl) (fun gm gM bx => have c7 := X.st o z; have c8 := c7.st bx z; yl ty3 z z (c8.cell 7 _ z)) z (WD.y 2 z (by kernel_rfl) (fun _ _ _ => yf fo33_8 z) z (WD.y 3 z (by kernel_rfl) (fun gn gO bz => have c9 := X.st o z; have da := c9.st bz z; yl ty26 z z (da.cell 8 _ z)) z (WD.y 4 z (by kernel_rfl) (fun _ _ _ => yf fo33_9 z) z (WD.y 5 z (by kernel_rfl) (fun gp gP bA => have db := X.st o z; have dc := db.st bA z; yl ty26 z z (dc.cell 9 _ z)) z (WD.y 6 z (by kernel_rfl) (fun _ _ _ => yf fo33_10 z) z (WD.y 7 z (by kernel_rfl) (fun gq gQ bB => have dd := X.st o z; have de := dd.st bB z; yL ty31 z z (de.cells 10 (hl a0.Hist (vl aY aZ a2) (vl a3 a4 a5)) z) z) z (WD.y 8 z (by kernel_rfl) (fun _ _ _ => yf fo33_7 z) z (WD.heavy 9 z (by kernel_rfl) ?_)))))))))
   have df := ap.st o z
   refine WL.store (v := vi a0.Int_) (cells' := [vs a.Name, (vl L M P), vi a.Kind, vi a.Temp, vB a.Mono, vi U, vi a.Time, vi a0.Int_, vu a.Re, vu a.Im, vi a.Hist.Scale, vu a.Hist.Zero, vi a.Hist.Pos.Offset, (vl Q S F), vi a.Hist.Neg.Offset, (vl G H I), vi J]) ty3 z z df z (le_ z) z z ?_
   intro gr q dg
   refine nl (At.dq (su_ q z) (WD.y 10 z (by kernel_rfl) (fun _ _ _ => yf fo33_8 z) z (WD.heavy 11 z (by kernel_rfl) (WL.store (v := vu a0.Re) (cells' := [vs a.Name, (vl L M P), vi a.Kind, vi a.Temp, vB a.Mono, vi U, vi a.Time, vi a0.Int_, vu a0.Re, vu a.Im, vi a.Hist.Scale, vu a.Hist.Zero, vi a.Hist.Pos.Offset, (vl Q S F), vi a.Hist.Neg.Offset, (vl G H I), vi J]) ty26 z z dg z (le_ z) z z ?_))))
   intro gs r dh
   refine nl (At.dq (su_ r z) (WD.y 12 z (by kernel_rfl) (fun _ _ _ => yf fo33_9 z) z (WD.heavy 13 z (by kernel_rfl) (WL.store (v := vu a0.Im) (cells' := [vs a.Name, (vl L M P), vi a.Kind, vi a.Temp, vB a.Mono, vi U, vi a.Time, vi a0.Int_, vu a0.Re, vu a0.Im, vi a.Hist.Scale, vu a.Hist.Zero, vi a.Hist.Pos.Offset, (vl Q S F), vi a.Hist.Neg.Offset, (vl G H I), vi J]) ty26 z z dh z (le_ z) z z ?_))))
   intro gt t di
   refine nl (At.dq (su_ t z) (WD.y 14 z (by kernel_rfl) (fun _ _ _ => yf fo33_10 z) z (WD.phase [17] [0, 1, 2, 3, 4, 5, 6, 7, 8, 9, 10, 11, 12, 13, 14, 15] (by kernel_rfl) (by kernel_rfl) (WD.heavy 15 z (by kernel_rfl) (WL.store (v := ag (hl a0.Hist (vl aY aZ a2) (vl a3 a4 a5))) (cells' := [vs a.Name, (vl L M P), vi a.Kind, vi a.Temp, vB a.Mono, vi U, vi a.Time, vi a0.Int_, vu a0.Re, vu a0.Im, vi a0.Hist.Scale, vu a0.Hist.Zero, vi a0.Hist.Pos.Offset, (vl aY aZ a2), vi a0.Hist.Neg.Offset, (vl a3 a4 a5), vi J]) ty31 z z di z (le_ z) z z ?_)))))
   intro gu C bb
   refine nl (At.dq (su_ C z) (WD.done_ (by kernel_rfl) (th (sq (rg ?_)))))
   have dx := (((((((((((an.st p z).st n z).st d z).st c z).st j z).st l z).st m z).st o z).st q z).st r z).st t z).st C z
   refine wY (yL ty33 z z (dx.cells 0 (cp a1 (vl aF aG aH) (vl aI aJ aK) (vl aL aM aN)) z) z) z ?_
   have dH := (((((((((aR.st d z z z).st c z z z).st j z z z).st l z z z).st m z z z).st o z z z).st q z z z).st r z z z).st t z z z).st C z z z
   obtain ⟨ak, K, dI⟩ := OwnSl.giveF rfl flat_api_Pair dH
   have dY := (((((((((((((((bh.i T z z).i E z z).i D z z).i p z z).i n z z).i d z z).i c z z).i j z z).i l z z).i m z z).i o z z).i q z z).i r z z).i t z z).i C z z).i K z z
   have ee := (((((((((((((((bi.i T z z).i E z z).i D z z).i p z z).i n z z).i d z z).i c z z).i j z z).i l z z).i m z z).i o z z).i q z z).i r z z).i t z z).i C z z).i K z z
   have et := ((((((((((((bn.i p z z).i n z z).i d z z).i c z z).i j z z).i l z z).i m z z).i o z z).i q z z).i r z z).i t z z).i C z z).i K z z
   have eH := ((((((((((((bo.i p z z).i n z z).i d z z).i c z z).i j z z).i l z z).i m z z).i o z z).i q z z).i r z z).i t z z).i C z z).i K z z
   have eU := ((((((((((((bp.i p z z).i n z z).i d z z).i c z z).i j z z).i l z z).i m z z).i o z z).i q z z).i r z z).i t z z).i C z z).i K z z
   have ar := bb.st K z
   obtain ⟨⟨gR, V⟩, eV, h⟩ := bnd h
   refine WL.call (vals := [pt aO 0, ag (cp a1 (vl aF aG aH) (vl aI aJ aK) (vl aL aM aN))]) kok47 z z (c_rollup_values (A := imm ak) (a0 := (api_Point.mk a.Name a.Attrs a.Kind a.Temp a.Mono U a.Time a0.Int_ a0.Re a0.Im a0.Hist J)) (a1 := a1) (Sl.mono dI frs_imm) dY ee bb.blk et eH eU (fun k hk => imm_ne ar.lab z k hk) eV) ?_
   rintro gw ah ⟨aS, aT, aU, rfl, eW, fT, fU, fV, fY⟩
   obtain ⟨al, W, ae, aP⟩ := adopt ak (fun k => 1) [17] eW (memB ar.lab rfl)
   have bc : Sl rep_api_Pair ah (imm al) aS V.Attrs := Sl.adoptI (O := ak) fT (fun _ hk => hk) (fun _ _ => Nat.le_refl _) W ae
   have bd : Sl Rep.u ah (imm al) aT V.Hist.Pos.Counts := Sl.adoptI (O := ak) fU (fun _ hk => hk) (fun _ _ => Nat.le_refl _) W ae
   have bf : Sl Rep.u ah (imm al) aU V.Hist.Neg.Counts := Sl.adoptI (O := ak) fV (fun _ hk => hk) (fun _ _ => Nat.le_refl _) W ae
   have eX : Blk 17 al ah aO 33 (cp V aS aT aU) := Blk.adopt ar W fY
   refine wY (ya z) z (nl (th (sq (rg (wY (yL ty33 z z (eX.cells 0 (cp V aS aT aU) z) z) z (wY (ym z) z ?_))))))
   have eY := h
   obtain ⟨au, av, ax, rfl⟩ := bc.shape
   have h := eY
   have eZ := h
   obtain ⟨ay, az, aA, rfl⟩ := bd.shape
   have h := eZ
   have e0 := h
   obtain ⟨aC, aD, aE, rfl⟩ := bf.shape
   have h := e0
   have fh := (((((((((((((bm.st p z).st n z).st d z).st c z).st j z).st l z).st m z).st o z).st q z).st r z).st t z).st C z).st K z).st aP z
   refine WL.store (v := ag (cp V (vl au av ax) (vl ay az aA) (vl aC aD aE))) (cells' := (cp V (vl au av ax) (vl ay az aA) (vl aC aD aE))) ty33 z z fh z (le_ z) z z ?_
   intro fi ad fj
   refine wY (ya z) z (nl (th (rt ?_)))
   obtain ⟨rfl, rfl⟩ := tup2 h
   have ai : Stp [13, 14, 17] (Lg.O0 A) w al fi := (tr_ (su_ T z) (tr_ (su_ E z) (tr_ (su_ D z) (tr_ (su_ p z) (tr_ (su_ n z) (tr_ (su_ d z) (tr_ (su_ c z) (tr_ (su_ j z) (tr_ (su_ l z) (tr_ (su_ m z) (tr_ (su_ o z) (tr_ (su_ q z) (tr_ (su_ r z) (tr_ (su_ t z) (tr_ (su_ C z) (tr_ (su_ K z) (tr_ (su_ aP z) (su_ ad z))))))))))))))))))
   have fk := bc.i ad z z
   have fl := bd.i ad z z
   have fm := bf.i ad z z
   exact At.res (.inl z) z (.cell z (fj.runAg 0 (cp V (vl au av ax) (vl ay az aA) (vl aC aD aE)) ty33 z z z) (.tmp z .nil)) ⟨(vl au av ax), (vl ay az aA), (vl aC aD aE), z, (se_ ai z z), (Sl.outI fk ai low0 O0_A), (Sl.outI fl ai low0 O0_A), (Sl.outI fm ai low0 O0_A)⟩
theorem c_rollup_Roll {A : Nat → Prop} {a0 : List api_Point} {v0 : Value} {a1 : Int} {w : World} (hs0 : Sl rep_api_Point w A v0 a0) {r0 : List api_Point} {r1 : Int} {r2 : Int} (h : rollup_Roll a0 a1 = some (r0, r1, r2)) : Rets Try.prog 8 [v0, vi a1] w (fun v w' => ∃ (u0 : Value), v = tp [u0, vi r1, vi r2] ∧ Ext w w' ∧ Sl rep_api_Point w' (fun k => A k ∨ w.heap.size ≤ k) u0 r0) := by
 unfold rollup_Roll at h
 refine Rets.enter Try.func8 z z ?_
 have bs : Sl rep_api_Point w (imm (Lg.O0 A)) v0 a0 := (Sl.start hs0)
 refine (show WC _ _ _ _ [(0, v0), (1, vi a1)] _ from ?_)
 refine sq (rg (wY (ya z) z (wY (ya z) z (wY (ya z) z (nl (th (sq (sq (rg ?_)))))))))
 refine wY (ym z) z (wY (Y.lss_i z z) z (nl (th ?_)))
 rcases cnd h with ⟨aZ, h⟩ | ⟨aZ, h⟩
 ·refine WC.condT' z aZ (sq (rg (wY (ya z) z (wY (ya z) z (wY (ya z) z (nl (th (rt (At.thenR ?_)))))))))
  obtain ⟨rfl, rfl, rfl⟩ := tup3 h
  have er : Stp [] (Lg.O0 A) w (Lg.O0 A) w := (sr_ _ _ _)
  exact At.res (.inl z) z (.tmp z (.tmp z (.tmp z .nil))) ⟨sn, z, (se_ er z z), (Or.inl ⟨z, z⟩)⟩
 ·refine WC.condF' z aZ (sk (th (sq (rg (wY (ya z) z (nl (th (sq (sq ?_)))))))))
  refine rg (wY (ym z) z (wY (Y.len ty22 z bs) z (wY (ym z) z (nl (th (WC.block ?_))))))
  obtain ⟨ek, h, a2⟩ := flow1 h
  obtain ⟨em, h⟩ := loop_some h
  refine WC.joinB 0 (σ := (List api_Point × Own × Value)) (fun x w' => ek = .go x.1 ∧ Stp [11, 12, 13, 14, 16, 1001, 1002] (Lg.O0 A) w x.2.1 w' ∧ OwnSl 1003 rep_api_Point 33 x.2.1 w' x.2.2 x.1) (fun x => [(7, x.2.2)]) ?_ ?_
  ·refine WC.loop (σ := (List api_Point × Int × Own × Value)) (fun x k w' => loopN k (rollup_Roll_lp1 a0 a1) (x.1, x.2.1) = some ek ∧ Stp [11, 12, 13, 14, 16, 1001, 1002] (Lg.O0 A) w x.2.2.1 w' ∧ OwnSl 1002 rep_api_Point 33 x.2.2.1 w' x.2.2.2 x.1) (fun x => [(0, v0), (1, vi a1), (7, x.2.2.2), (14, v0), (15, vi (a0.length : Int)), (16, vi x.2.1)]) ([], 0, (Lg.O0 A), sn) em (.cons z (.cons z (.cons z (.cons z (.cons z (.cons z .nil)))))) ⟨h, (sr_ _ _ _), (OwnSl.nil 1002 rep_api_Point 33)⟩ ?_
   rintro ⟨b8, I, en, ad⟩ em es ⟨h, Q, a3⟩
   obtain ⟨fv, gI, rfl, h, ay⟩ := rnd1 h
   unfold rollup_Roll_lp1 at h
   try dsimp only at h Q a3
   refine (show WC _ _ _ _ [(0, v0), (1, vi a1), (7, ad), (14, v0), (15, vi (a0.length : Int)), (16, vi I)] _ from ?_)
   refine sq (rg (wY (Y.lss_i z z) z (nl (th (sq ?_)))))
   rcases cnd h with ⟨a4, h⟩ | ⟨a4, h⟩
   ·refine WC.condT' z a4 (sk (th (sq ?_)))
    obtain ⟨fw, h, a5⟩ := flow1 h
    refine WC.join (σ := (List api_Point × Own × Value)) (fun x w' => fw = .go x.1 ∧ Stp [11, 12, 13, 14, 1002] en es x.2.1 w' ∧ OwnSl 1001 rep_api_Point 33 x.2.1 w' x.2.2 x.1) (fun x => [(0, v0), (1, vi a1), (7, x.2.2), (14, v0), (15, vi (a0.length : Int)), (16, vi I)]) ?_ ?_
    ·refine WC.block (sq (rg (wY (ym z) z ?_)))
     obtain ⟨J, et, h⟩ := bnd h
     have bt := bs.i Q z z
     obtain ⟨gJ, fL, fN, gj, eu, ew, ex, a6, b9, ey⟩ := Sl.at2 bt et
     obtain ⟨_, _, rfl, rfl, ⟨_, _, rfl, ⟨fx, rfl, ez⟩, ⟨_, _, rfl, rfl, ⟨_, _, rfl, rfl, ⟨_, _, rfl, rfl, ⟨_, _, rfl, rfl, ⟨_, _, rfl, rfl, ⟨_, _, rfl, rfl, ⟨_, _, rfl, rfl, ⟨_, _, rfl, rfl, ⟨_, _, rfl, ⟨_, _, rfl, rfl, ⟨_, _, rfl, rfl, ⟨_, _, rfl, ⟨_, _, rfl, rfl, ⟨fy, rfl, eA⟩⟩, ⟨_, _, rfl, rfl, ⟨fz, rfl, eB⟩⟩⟩⟩⟩, rfl⟩⟩⟩⟩⟩⟩⟩⟩⟩⟩⟩ := b9
     replace a6 : CellsAt _ _ _ (cp J fx fy fz) := a6
     have ca := CAt.imm a6 ey
     refine wY (Y.indexAddr ty22 ty33 z eu z ew ex) z (wY (yL ty33 z z ca.at_ z) z (WL.alloc (O := en) 11 [vs [], sn, vi 0, vi 0, vB false, vi 0, vi 0, vi 0, vu 0, vu 0, vi 0, vu 0, vi 0, sn, vi 0, sn, vi 0] ty33 z z ?_))
     intro ax fA gk K eC
     refine wY (ya z) z ?_
     have bu := ez.i K z z
     have eD := h
     obtain ⟨S, T, U, rfl⟩ := bu.shape
     have h := eD
     have bw := eA.i K z z
     have eE := h
     obtain ⟨V, W, X, rfl⟩ := bw.shape
     have h := eE
     have bx := eB.i K z z
     have eF := h
     obtain ⟨Z, aa, ab, rfl⟩ := bx.shape
     have h := eF
     refine WL.store (v := ag (cp J (vl S T U) (vl V W X) (vl Z aa ab))) (cells' := (cp J (vl S T U) (vl V W X) (vl Z aa ab))) ty33 z z eC z (le_ z) z z ?_
     intro gl L ao
     refine nl (th (sq (rg (wY (yL ty33 z z (ao.cells 0 (cp J (vl S T U) (vl V W X) (vl Z aa ab)) z) z) z ?_))))
     have az := bu.i L z z
     have aA := bw.i L z z
     have aC := bx.i L z z
     obtain ⟨ap, eG, h⟩ := bnd h
     refine WL.call (vals := [ag (cp J (vl S T U) (vl V W X) (vl Z aa ab))]) kok19 z z (c_point_Check (A := fun _ => True) (a0 := J) (Sl.all az) (Sl.all aA) (Sl.all aC) eG) ?_
     rintro gm bz ⟨rfl, eH⟩
     obtain ⟨bc, fB, fC, d⟩ := adoptE fA (fun k => 1) eH
     refine wY (ya z) z (nl (th (sq ?_)))
     obtain ⟨eI, h, cb⟩ := bnd h
     refine WC.join (σ := (Int × Own)) (fun x w' => x.1 = eI ∧ Stp [] bc bz x.2 w') (fun x => [(0, v0), (1, vi a1), (7, ad), (8, vi I), (9, pt ax 0), (10, vi x.1), (14, v0), (15, vi (a0.length : Int)), (16, vi I)]) ?_ ?_
     ·refine sq (rg (wY (ym z) z (wY (Y.eql_i z z) z (wY (ym z) z ?_))))
      refine WL.cut 3 (σ := Unit) (fun _ w' => bz = w') (fun _ => [(0, v0), (1, vi a1), (7, ad), (8, vi I), (9, pt ax 0), (10, vi ap), (14, v0), (15, vi (a0.length : Int)), (16, vi I), (28, vB ((decide (ap = 0)) && (decide (0 < I))))]) ?_ ?_
      ·refine WL.part 25 z (fun aD => ?_) (fun aD => ?_)
       ·refine ug z z (wY (ym z) z (ug z z (wY (Y.gtr_i z z) z (wY (Y.pick (b := true) z z) z (WL.ren (v' := vB ((decide (ap = 0)) && (decide (0 < I)))) 28 z (congrArg vB (andT aD)) ?_)))))
        exact nl (At.join () z (.cons z (.cons z (.cons z (.cons z (.cons z (.cons z (.cons z (.cons z (.cons z (.cons z .nil)))))))))))
       ·refine WL.gS z z z z (WL.gS z z z z (wY (Y.pick (b := false) z z) z (WL.ren (v' := vB ((decide (ap = 0)) && (decide (0 < I)))) 28 z (congrArg vB (andF aD)) ?_)))
        exact nl (At.join () z (.cons z (.cons z (.cons z (.cons z (.cons z (.cons z (.cons z (.cons z (.cons z (.cons z .nil)))))))))))
      ·rintro _ _ rfl
       refine (show WL _ _ _ _ _ [(0, v0), (1, vi a1), (7, ad), (8, vi I), (9, pt ax 0), (10, vi ap), (14, v0), (15, vi (a0.length : Int)), (16, vi I), (28, vB ((decide (ap = 0)) && (decide (0 < I))))] _ from ?_)
       refine nl (th ?_)
       rcases cnd h with ⟨aE, h⟩ | ⟨aE, h⟩
       ·refine WC.condT' z aE (WC.draw 6 bc fmix (by kernel_rfl) ?_)
        intro fO P
        refine WS.y (ym z) z (WS.y (ym z) z (WS.y (Y.sub_i z z) z ?_))
        obtain ⟨a7, cc, h⟩ := bnd h
        have cg := (((bt.i K z z).i L z z).i d z z).i P z z
        obtain ⟨gn, fD, fF, fP, ch, ci, cj, aF, bA, ck⟩ := Sl.at2 cg cc
        obtain ⟨_, _, rfl, rfl, ⟨_, _, rfl, ⟨bB, rfl, cl⟩, ⟨_, _, rfl, rfl, ⟨_, _, rfl, rfl, ⟨_, _, rfl, rfl, ⟨_, _, rfl, rfl, ⟨_, _, rfl, rfl, ⟨_, _, rfl, rfl, ⟨_, _, rfl, rfl, ⟨_, _, rfl, rfl, ⟨_, _, rfl, ⟨_, _, rfl, rfl, ⟨_, _, rfl, rfl, ⟨_, _, rfl, ⟨_, _, rfl, rfl, ⟨bC, rfl, cm⟩⟩, ⟨_, _, rfl, rfl, ⟨bD, rfl, cn⟩⟩⟩⟩⟩, rfl⟩⟩⟩⟩⟩⟩⟩⟩⟩⟩⟩ := bA
        replace aF : CellsAt _ _ _ (cp a7 bB bC bD) := aF
        have bE := CAt.imm aF ck
        refine WS.y (Y.indexAddr ty22 ty33 z ch z ci cj) z (WS.y (yL ty33 z z bE.at_ z) z ?_)
        have cq := (ao.st d z).st P z
        refine WS.y (yL ty33 z z (cq.cells 0 (cp J (vl S T U) (vl V W X) (vl Z aa ab)) z) z) z (WS.tail ?_)
        have cs := (az.i d z z).i P z z
        have cu := (aA.i d z z).i P z z
        have cw := (aC.i d z z).i P z z
        obtain ⟨eJ, cx, h⟩ := bnd h
        refine WL.call (vals := [ag (cp a7 bB bC bD), ag (cp J (vl S T U) (vl V W X) (vl Z aa ab))]) kok20 z z (c_rollup_fits (A := fun _ => True) (a0 := a7) (a1 := J) (Sl.all cl) (Sl.all cm) (Sl.all cn) (Sl.all cs) (Sl.all cu) (Sl.all cw) cx) ?_
        rintro fQ fR ⟨rfl, cy⟩
        obtain ⟨eK, fm, fn, bF⟩ := adoptE bc (fun k => 1) cy
        refine wY (ya z) z (nl ?_)
        exact At.join (σ := (Int × Own)) (eJ, eK) ⟨some1 h, (tr_ (su_ P z) (su_ bF z))⟩ (.cons z (.cons z (.cons z (.cons z (.cons z (.cons z (.cons z (.cons z (.cons z .nil)))))))))
       ·refine WC.condF' z aE (sk ?_)
        exact At.join (σ := (Int × Own)) (ap, bc) ⟨some1 h, (sr_ _ _ _)⟩ (.cons z (.cons z (.cons z (.cons z (.cons z (.cons z (.cons z (.cons z (.cons z .nil)))))))))
     ·rintro ⟨fG, aT⟩ eL ⟨rfl, m⟩
      replace h := cb
      try dsimp only at h m
      refine (show At _ _ _ [(0, v0), (1, vi a1), (7, ad), (8, vi I), (9, pt ax 0), (10, vi fG), (14, v0), (15, vi (a0.length : Int)), (16, vi I)] _ from ?_)
      refine th (sq (sq (rg (wY (ym z) z (wY (Y.neq_i z z) z (nl (th ?_)))))))
      rcases cnd h with ⟨aG, h⟩ | ⟨aG, h⟩
      ·refine WC.condT' z aG (sq (rg (wY (ym z) z (wY (ym z) z (wY (ya z) z (wY (ya z) z (wY (ya z) z (nl (th ?_)))))))))
       refine rt (At.thenR (At.inBlockR ?_))
       have h := outs1 h a5
       refine At.joinR (At.thenR (At.loopR ?_))
       have h := outr1 h ay a2
       refine At.joinBR (At.inBlockR (At.thenR ?_))
       obtain ⟨rfl, rfl, rfl⟩ := tup3 h
       have cz : Stp [11, 12, 13, 14, 16, 1001, 1002] (Lg.O0 A) w aT eL := (tr_ (su_ Q z) (tr_ (su_ K z) (tr_ (su_ L z) (tr_ (su_ d z) (su_ m z)))))
       exact At.res (.inl z) z (.tmp z (.tmp z (.tmp z .nil))) ⟨sn, z, (se_ cz z z), (Or.inl ⟨z, z⟩)⟩
      ·refine WC.condF' z aG (sk (th (sq (rg (wY (ym z) z ?_)))))
       have an := (((a3.st K z z z).st L z z z).st d z z z).st m z z z
       refine wY (Y.len ty22 z an.src.sl) z ?_
       obtain ⟨bd, bG, h⟩ := lt1 h
       refine WL.yE (ya z) (congrArg vi bG.symm) z (nl (th (sq (sq (WC.drawH [] [0, 1, 2, 3, 4, 5, 6, 7, 8, 9, 10, 11, 12, 13, 14, 15, 16] aT 17 fmix z (by kernel_rfl) ?_)))))
       intro cE j
       refine WD.y 0 z (by kernel_rfl) (fun _ _ _ => ym z) z (WD.y 1 z (by kernel_rfl) (fun _ _ _ => Y.eql_i z z) z (WD.y 2 z (by kernel_rfl) (fun _ _ _ => ym z) z ?_))
       obtain ⟨eM, h, cF⟩ := bnd h
       refine WD.join (σ := (Bool × Own)) (f' := 0) [16, 15, 14, 10, 13, 12, 11, 9, 8, 7, 6, 5, 4, 3, 2, 1, 0] (fun x O' w' => x.1 = eM ∧ Stp [] aT cE x.2 w' ∧ x.2 = O') (fun x => [(0, v0), (1, vi a1), (7, ad), (8, vi I), (9, pt ax 0), (11, vi bd), (14, v0), (15, vi (a0.length : Int)), (16, vi I), (58, vB x.1)]) (fun bf => ?_) ?_
       ·rcases cnd h with ⟨ae, h⟩ | ⟨ae, h⟩
        ·refine WD.ren 44 z (congrArg vB ae) (WD.gS 3 z (by kernel_rfl) z z z z (WD.gS 4 z (by kernel_rfl) z z z z (WD.gS 5 z (by kernel_rfl) z z z z (WD.gS 6 z (by kernel_rfl) z z z z (WD.gS 7 z (by kernel_rfl) z z z z (WD.gS 8 z (by kernel_rfl) z z z z (WD.gS 9 z (by kernel_rfl) z z z z (WD.gS 11 z (by kernel_rfl) z z z z (WD.gS 12 z (by kernel_rfl) z z z z ?_)))))))))
         refine WD.gS 13 z (by kernel_rfl) z z z z (WD.heavy 10 z (by kernel_rfl) (WL.gS z z z z (nl (At.dq (sr_ _ _ _) (WD.heavy 14 z (by kernel_rfl) (WL.gS z z z z (nl (At.dq (sr_ _ _ _) (WD.gS 15 z (by kernel_rfl) z z z z ?_)))))))))
         refine WD.y 16 z (by kernel_rfl) (fun _ _ _ => Y.pick (b := true) z z) z (WD.ren 44 z (congrArg vB ae.symm) ?_)
         exact bf (true, aT) _ _ _ ⟨some1 h, (sr_ _ _ _), z⟩ (.cons z (.cons z (.cons z (.cons z (.cons z (.cons z (.cons z (.cons z (.cons z (.cons z .nil))))))))))
        ·refine WD.ren 44 z (congrArg vB ae) (WD.gT 3 z (by kernel_rfl) z z (fun _ _ _ => ym z) z (WD.gT 4 z (by kernel_rfl) z z (fun _ _ _ => ym z) z (WD.gT 5 z (by kernel_rfl) z z (fun _ _ _ => Y.sub_i z z) z ?_)))
         obtain ⟨a8, cG, h⟩ := bnd h
         have bg := an.st j z z z
         obtain ⟨gp, fH, fT, bh, cH, cI, aH, bH⟩ := OwnSl.at bg cG
         obtain ⟨_, _, rfl, rfl, ⟨_, _, rfl, ⟨eN, rfl, fU⟩, ⟨_, _, rfl, rfl, ⟨_, _, rfl, rfl, ⟨_, _, rfl, rfl, ⟨_, _, rfl, rfl, ⟨_, _, rfl, rfl, ⟨_, _, rfl, rfl, ⟨_, _, rfl, rfl, ⟨_, _, rfl, rfl, ⟨_, _, rfl, ⟨_, _, rfl, rfl, ⟨_, _, rfl, rfl, ⟨_, _, rfl, ⟨_, _, rfl, rfl, ⟨eO, rfl, fV⟩⟩, ⟨_, _, rfl, rfl, ⟨eP, rfl, fY⟩⟩⟩⟩⟩, rfl⟩⟩⟩⟩⟩⟩⟩⟩⟩⟩⟩ := bH
         replace aH : CellsAt _ _ _ (cp a8 eN eO eP) := aH
         have bI := CAt.own bg bh aH
         refine WD.gT 6 z (by kernel_rfl) z z (fun _ _ _ => Y.indexAddr ty22 ty33 z bh z cH cI) z (WD.gT 7 z (by kernel_rfl) z z (fun _ _ _ => yf fo33_6 z) z (WD.gT 8 z (by kernel_rfl) z z (fun f0 gq bJ => have cJ := bI.st bJ z; yl ty3 z z (cJ.at_.sub 6 [vi a8.Time] z)) z (WD.gT 9 z (by kernel_rfl) z z (fun _ _ _ => ym z) z (WD.gT 11 z (by kernel_rfl) z z (fun _ _ _ => yf fo33_6 z) z (WD.gT 12 z (by kernel_rfl) z z (fun f1 gr bK => have cK := ao.st d z; have cL := cK.st m z; have cM := cL.st j z; have cN := cM.st bK z; yl ty3 z z (cN.cell 6 _ z)) z (WD.gT 13 z (by kernel_rfl) z z (fun _ _ _ => ym z) z (WD.heavy 10 z (by kernel_rfl) (ug z z ?_))))))))
         obtain ⟨eQ, cO, h⟩ := bnd h
         refine WL.call (vals := [vi a8.Time, vi a1]) kok17 z z (c_rollup_Window cO) ?_
         rintro f2 f3 ⟨rfl, cP⟩
         obtain ⟨eR, fo, fp, aU⟩ := adoptE aT (fun k => 1) cP
         refine nl (At.dq (su_ aU z) (WD.heavy 14 z (by kernel_rfl) (ug z z ?_)))
         obtain ⟨eS, cQ, h⟩ := bnd h
         refine WL.call (vals := [vi J.Time, vi a1]) kok17 z z (c_rollup_Window cQ) ?_
         rintro f4 f5 ⟨rfl, cR⟩
         obtain ⟨eT, fq, fs, aW⟩ := adoptE eR (fun k => 1) cR
         refine nl (At.dq (su_ aW z) (WD.gT 15 z (by kernel_rfl) z z (fun _ _ _ => Y.neq_i z z) z (WD.y 16 z (by kernel_rfl) (fun _ _ _ => Y.pick (b := false) z z) z (WD.ren 44 z (congrArg vB ae.symm) ?_))))
         exact bf ((!decide (eQ = eS)), eT) _ _ _ ⟨some1 h, (tr_ (su_ aU z) (su_ aW z)), z⟩ (.cons z (.cons z (.cons z (.cons z (.cons z (.cons z (.cons z (.cons z (.cons z (.cons z .nil))))))))))
       ·rintro ⟨eU, ac⟩ _ f6 ⟨rfl, l, rfl⟩
        replace h := cF
        try dsimp only at h l
        refine (show WD _ _ _ _ _ _ _ _ [(0, v0), (1, vi a1), (7, ad), (8, vi I), (9, pt ax 0), (11, vi bd), (14, v0), (15, vi (a0.length : Int)), (16, vi I), (58, vB eU)] _ _ from ?_)
        refine WD.done_ (by kernel_rfl) (th ?_)
        rcases cnd h with ⟨aI, h⟩ | ⟨aI, h⟩
        ·refine WC.condT' z aI (sq (rg (wY (ym z) z ?_)))
         have cV := (((ao.st d z).st m z).st j z).st l z
         refine wY (yL ty33 z z (cV.cells 0 (cp J (vl S T U) (vl V W X) (vl Z aa ab)) z) z) z ?_
         have cZ := (((az.i d z z).i m z z).i j z z).i l z z
         have c3 := (((aA.i d z z).i m z z).i j z z).i l z z
         have c7 := (((aC.i d z z).i m z z).i j z z).i l z z
         obtain ⟨a, c8, h⟩ := bnd h
         refine WL.call (vals := [ag (cp J (vl S T U) (vl V W X) (vl Z aa ab))]) kok21 z z (c_point_Clone (A := fun _ => True) (a0 := J) (Sl.all cZ) (Sl.all c3) (Sl.all c7) c8) ?_
         rintro f7 aJ ⟨aK, a9, bL, rfl, c9, eV, eW, eX, eY, eZ, e0⟩
         obtain ⟨ba, ft, ak, aX⟩ := adoptE ac (fun k => if ob aK = some k then 12 else if ob a9 = some k then 13 else if ob bL = some k then 14 else 1) c9
         have bi : OwnSl 12 rep_api_Pair 65 ba aJ aK a.Attrs := RowF.adopt 12 flat_api_Pair eV ak (fun k hk => if_pos hk)
         have bj : OwnSl 13 Rep.u 26 ba aJ a9 a.Hist.Pos.Counts := RowF.adopt 13 Flat.u eW ak (fun k hk => (if_neg (fun (e : ob aK = some k) => eY k e hk)).trans (if_pos hk))
         have bk : OwnSl 14 Rep.u 26 ba aJ bL a.Hist.Neg.Counts := RowF.adopt 14 Flat.u eX ak (fun k hk => (if_neg (fun (e : ob aK = some k) => eZ k e hk)).trans ((if_neg (fun (e : ob a9 = some k) => e0 k e hk)).trans (if_pos hk)))
         have da := h
         obtain ⟨aq, ar, au, rfl⟩ := bi.shape
         have h := da
         have db := h
         obtain ⟨n, o, p, rfl⟩ := bj.shape
         have h := db
         have dc := h
         obtain ⟨q, r, t, rfl⟩ := bk.shape
         have h := dc
         obtain ⟨gs, af, dd⟩ := OwnSl.giveF rfl flat_api_Pair bi
         have de := bj.st af z z z
         obtain ⟨gt, ah, df⟩ := OwnSl.giveF rfl Flat.u de
         have dh := (bk.st af z z z).st ah z z z
         obtain ⟨e1, ai, di⟩ := OwnSl.giveF rfl Flat.u dh
         have dk := (dd.f ah z).f ai z
         have dl := df.f ai z
         refine WL.buildSlice (O := e1) (R := rep_api_Point) (vals := [(0, ag (cp a (vl aq ar au) (vl n o p) (vl q r t)))]) 15 (cp a (vl aq ar au) (vl n o p) (vl q r t)) (xs := [a]) (by decide) ty22 ty33 (by decide) (by decide) (fe_ z) (by kernel_rfl) z ⟨(cp a (vl aq ar au) (vl n o p) (vl q r t)), [], z, ⟨[vs a.Name], [(vl aq ar au), vi a.Kind, vi a.Temp, vB a.Mono, vi a.Start, vi a.Time, vi a.Int_, vu a.Re, vu a.Im, vi a.Hist.Scale, vu a.Hist.Zero, vi a.Hist.Pos.Offset, (vl n o p), vi a.Hist.Neg.Offset, (vl q r t), vi a.Flags], z, z, ⟨[(vl aq ar au)], [vi a.Kind, vi a.Temp, vB a.Mono, vi a.Start, vi a.Time, vi a.Int_, vu a.Re, vu a.Im, vi a.Hist.Scale, vu a.Hist.Zero, vi a.Hist.Pos.Offset, (vl n o p), vi a.Hist.Neg.Offset, (vl q r t), vi a.Flags], z, ⟨_, z, (Sl.mono dk frs_imm)⟩, ⟨[vi a.Kind], [vi a.Temp, vB a.Mono, vi a.Start, vi a.Time, vi a.Int_, vu a.Re, vu a.Im, vi a.Hist.Scale, vu a.Hist.Zero, vi a.Hist.Pos.Offset, (vl n o p), vi a.Hist.Neg.Offset, (vl q r t), vi a.Flags], z, z, ⟨[vi a.Temp], [vB a.Mono, vi a.Start, vi a.Time, vi a.Int_, vu a.Re, vu a.Im, vi a.Hist.Scale, vu a.Hist.Zero, vi a.Hist.Pos.Offset, (vl n o p), vi a.Hist.Neg.Offset, (vl q r t), vi a.Flags], z, z, ⟨[vB a.Mono], [vi a.Start, vi a.Time, vi a.Int_, vu a.Re, vu a.Im, vi a.Hist.Scale, vu a.Hist.Zero, vi a.Hist.Pos.Offset, (vl n o p), vi a.Hist.Neg.Offset, (vl q r t), vi a.Flags], z, z, ⟨[vi a.Start], [vi a.Time, vi a.Int_, vu a.Re, vu a.Im, vi a.Hist.Scale, vu a.Hist.Zero, vi a.Hist.Pos.Offset, (vl n o p), vi a.Hist.Neg.Offset, (vl q r t), vi a.Flags], z, z, ⟨[vi a.Time], [vi a.Int_, vu a.Re, vu a.Im, vi a.Hist.Scale, vu a.Hist.Zero, vi a.Hist.Pos.Offset, (vl n o p), vi a.Hist.Neg.Offset, (vl q r t), vi a.Flags], z, z, ⟨[vi a.Int_], [vu a.Re, vu a.Im, vi a.Hist.Scale, vu a.Hist.Zero, vi a.Hist.Pos.Offset, (vl n o p), vi a.Hist.Neg.Offset, (vl q r t), vi a.Flags], z, z, ⟨[vu a.Re], [vu a.Im, vi a.Hist.Scale, vu a.Hist.Zero, vi a.Hist.Pos.Offset, (vl n o p), vi a.Hist.Neg.Offset, (vl q r t), vi a.Flags], z, z, ⟨[vu a.Im], [vi a.Hist.Scale, vu a.Hist.Zero, vi a.Hist.Pos.Offset, (vl n o p), vi a.Hist.Neg.Offset, (vl q r t), vi a.Flags], z, z, ⟨(hl a.Hist (vl n o p) (vl q r t)), [vi a.Flags], z, ⟨[vi a.Hist.Scale], [vu a.Hist.Zero, vi a.Hist.Pos.Offset, (vl n o p), vi a.Hist.Neg.Offset, (vl q r t)], z, z, ⟨[vu a.Hist.Zero], [vi a.Hist.Pos.Offset, (vl n o p), vi a.Hist.Neg.Offset, (vl q r t)], z, z, ⟨[vi a.Hist.Pos.Offset, (vl n o p)], [vi a.Hist.Neg.Offset, (vl q r t)], z, ⟨[vi a.Hist.Pos.Offset], [(vl n o p)], z, z, ⟨_, z, (Sl.mono dl frs_imm)⟩⟩, ⟨[vi a.Hist.Neg.Offset], [(vl q r t)], z, z, ⟨_, z, (Sl.mono di frs_imm)⟩⟩⟩⟩⟩, z⟩⟩⟩⟩⟩⟩⟩⟩⟩⟩⟩, z⟩ z ?_
         intro gu gw f8 aY dm
         obtain ⟨dn, bM, h⟩ := bnd h
         have dx := ((((((an.st j z z z).st l z z z).st aX z z z).st af z z z).st ah z z z).st ai z z z).st aY z z z
         refine WL.append (by decide) ty22 ty33 z (by decide) z z dx dm.src bM z ?_
         intro e2 gz f9 bO dy
         refine wY (ya z) z (nl (th (WC.exit (At.thenX (At.inBlockHit ?_)))))
         obtain ⟨e5, bP, dz⟩ := OwnSl.rlb 1001 rfl dy
         exact At.join (σ := (List api_Point × Own × Value)) (dn, e5, e2) ⟨go2 h, (tr_ (su_ K z) (tr_ (su_ L z) (tr_ (su_ d z) (tr_ (su_ m z) (tr_ (su_ j z) (tr_ (su_ l z) (tr_ (su_ aX z) (tr_ (su_ af z) (tr_ (su_ ah z) (tr_ (su_ ai z) (tr_ (su_ aY z) (tr_ (su_ bO z) (su_ bP z))))))))))))), dz⟩ (.cons z (.cons z (.cons z (.cons z (.cons z (.cons z .nil))))))
        ·refine WC.condF' z aI (sk (th (sq (WC.drawH [1002] [0, 1, 2, 3, 4, 5, 6, 7, 8, 9, 10, 11, 12, 13, 14, 15] ac 16 fmix z (by kernel_rfl) ?_))))
         intro ga M
         refine WD.y 0 z (by kernel_rfl) (fun _ _ _ => ym z) z (WD.y 1 z (by kernel_rfl) (fun _ _ _ => ym z) z (WD.y 2 z (by kernel_rfl) (fun _ _ _ => Y.sub_i z z) z (WD.y 3 z (by kernel_rfl) (fun _ _ _ => ym z) z (WD.y 4 z (by kernel_rfl) (fun _ _ _ => ym z) z (WD.y 5 z (by kernel_rfl) (fun _ _ _ => Y.sub_i z z) z ?_)))))
         obtain ⟨bb, dA, h⟩ := bnd h
         have aL := ((an.st j z z z).st l z z z).st M z z z
         obtain ⟨gB, fI, gb, bl, dD, dE, aM, bQ⟩ := OwnSl.at aL dA
         obtain ⟨_, _, rfl, rfl, ⟨_, _, rfl, ⟨bR, rfl, dF⟩, ⟨_, _, rfl, rfl, ⟨_, _, rfl, rfl, ⟨_, _, rfl, rfl, ⟨_, _, rfl, rfl, ⟨_, _, rfl, rfl, ⟨_, _, rfl, rfl, ⟨_, _, rfl, rfl, ⟨_, _, rfl, rfl, ⟨_, _, rfl, ⟨_, _, rfl, rfl, ⟨_, _, rfl, rfl, ⟨_, _, rfl, ⟨_, _, rfl, rfl, ⟨bS, rfl, dG⟩⟩, ⟨_, _, rfl, rfl, ⟨bT, rfl, dH⟩⟩⟩⟩⟩, rfl⟩⟩⟩⟩⟩⟩⟩⟩⟩⟩⟩ := bQ
         replace aM : CellsAt _ _ _ (cp bb bR bS bT) := aM
         have bU := CAt.own aL bl aM
         refine WD.y 6 z (by kernel_rfl) (fun _ _ _ => Y.indexAddr ty22 ty33 z bl z dD dE) z (WD.y 8 z (by kernel_rfl) (fun gc gC bW => have dI := ao.st d z; have dJ := dI.st m z; have dK := dJ.st j z; have dL := dK.st l z; have dM := dL.st M z; have dN := dM.st bW z; yL ty33 z z (dN.cells 0 (cp J (vl S T U) (vl V W X) (vl Z aa ab)) z) z) z (WD.heavy 7 z (by kernel_rfl) (wY (yL ty33 z z bU.at_ z) z (nl (At.dq (sr_ _ _ _) (WD.heavy 9 z (by kernel_rfl) ?_))))))
         have dS := ((((az.i d z z).i m z z).i j z z).i l z z).i M z z
         have dX := ((((aA.i d z z).i m z z).i j z z).i l z z).i M z z
         have d2 := ((((aC.i d z z).i m z z).i j z z).i l z z).i M z z
         obtain ⟨⟨c, gE⟩, d3, h⟩ := bnd h
         refine WL.call (vals := [ag (cp bb bR bS bT), ag (cp J (vl S T U) (vl V W X) (vl Z aa ab))]) kok22 z z (c_rollup_join (A := imm ac) (a0 := bb) (a1 := J) dF dG dH dS dX d2 d3) ?_
         rintro gd aN ⟨e6, e7, e8, rfl, d4, e9, fa, fc⟩
         obtain ⟨aO, al, am, aj⟩ := adoptE ac (fun k => 1) d4
         have bm : Sl rep_api_Pair aN (imm aO) e6 c.Attrs := Sl.adoptI (O := ac) e9 (fun _ hk => hk) (fun _ _ => Nat.le_refl _) al am
         have bn : Sl Rep.u aN (imm aO) e7 c.Hist.Pos.Counts := Sl.adoptI (O := ac) fa (fun _ hk => hk) (fun _ _ => Nat.le_refl _) al am
         have bo : Sl Rep.u aN (imm aO) e8 c.Hist.Neg.Counts := Sl.adoptI (O := ac) fc (fun _ hk => hk) (fun _ _ => Nat.le_refl _) al am
         refine nl (At.dq (su_ aj z) (WD.y 10 z (by kernel_rfl) (fun _ _ _ => ym z) z (WD.y 11 z (by kernel_rfl) (fun _ _ _ => yx z z) z (WD.y 12 z (by kernel_rfl) (fun _ _ _ => yx z z) z ?_))))
         obtain ⟨fd, d5, h⟩ := bnd h
         have aP := aL.st aj z z z
         obtain ⟨gG, fJ, ge, aQ, d6, d7, aR, bX⟩ := OwnSl.at aP d5
         obtain ⟨_, _, rfl, rfl, ⟨_, _, rfl, ⟨fe, rfl, gf⟩, ⟨_, _, rfl, rfl, ⟨_, _, rfl, rfl, ⟨_, _, rfl, rfl, ⟨_, _, rfl, rfl, ⟨_, _, rfl, rfl, ⟨_, _, rfl, rfl, ⟨_, _, rfl, rfl, ⟨_, _, rfl, rfl, ⟨_, _, rfl, ⟨_, _, rfl, rfl, ⟨_, _, rfl, rfl, ⟨_, _, rfl, ⟨_, _, rfl, rfl, ⟨ff, rfl, gg⟩⟩, ⟨_, _, rfl, rfl, ⟨fg, rfl, gh⟩⟩⟩⟩⟩, rfl⟩⟩⟩⟩⟩⟩⟩⟩⟩⟩⟩ := bX
         replace aR : CellsAt _ _ _ (cp fd fe ff fg) := aR
         have fK := CAt.own aP aQ aR
         refine WD.y 13 z (by kernel_rfl) (fun _ _ _ => Y.indexAddr ty22 ty33 z aQ z d6 d7) z (WD.heavy 14 z (by kernel_rfl) ?_)
         have d8 := h
         obtain ⟨bY, bZ, b0, rfl⟩ := bm.shape
         have h := d8
         have d9 := h
         obtain ⟨C, D, E, rfl⟩ := bn.shape
         have h := d9
         have ea := h
         obtain ⟨F, G, H, rfl⟩ := bo.shape
         have h := ea
         obtain ⟨eb, b1, h⟩ := bnd h
         refine WL.storeOwn (R := rep_api_Point) (u := c) (by decide) ty33 z z ⟨[vs c.Name], [(vl bY bZ b0), vi c.Kind, vi c.Temp, vB c.Mono, vi c.Start, vi c.Time, vi c.Int_, vu c.Re, vu c.Im, vi c.Hist.Scale, vu c.Hist.Zero, vi c.Hist.Pos.Offset, (vl C D E), vi c.Hist.Neg.Offset, (vl F G H), vi c.Flags], z, z, ⟨[(vl bY bZ b0)], [vi c.Kind, vi c.Temp, vB c.Mono, vi c.Start, vi c.Time, vi c.Int_, vu c.Re, vu c.Im, vi c.Hist.Scale, vu c.Hist.Zero, vi c.Hist.Pos.Offset, (vl C D E), vi c.Hist.Neg.Offset, (vl F G H), vi c.Flags], z, ⟨_, z, bm⟩, ⟨[vi c.Kind], [vi c.Temp, vB c.Mono, vi c.Start, vi c.Time, vi c.Int_, vu c.Re, vu c.Im, vi c.Hist.Scale, vu c.Hist.Zero, vi c.Hist.Pos.Offset, (vl C D E), vi c.Hist.Neg.Offset, (vl F G H), vi c.Flags], z, z, ⟨[vi c.Temp], [vB c.Mono, vi c.Start, vi c.Time, vi c.Int_, vu c.Re, vu c.Im, vi c.Hist.Scale, vu c.Hist.Zero, vi c.Hist.Pos.Offset, (vl C D E), vi c.Hist.Neg.Offset, (vl F G H), vi c.Flags], z, z, ⟨[vB c.Mono], [vi c.Start, vi c.Time, vi c.Int_, vu c.Re, vu c.Im, vi c.Hist.Scale, vu c.Hist.Zero, vi c.Hist.Pos.Offset, (vl C D E), vi c.Hist.Neg.Offset, (vl F G H), vi c.Flags], z, z, ⟨[vi c.Start], [vi c.Time, vi c.Int_, vu c.Re, vu c.Im, vi c.Hist.Scale, vu c.Hist.Zero, vi c.Hist.Pos.Offset, (vl C D E), vi c.Hist.Neg.Offset, (vl F G H), vi c.Flags], z, z, ⟨[vi c.Time], [vi c.Int_, vu c.Re, vu c.Im, vi c.Hist.Scale, vu c.Hist.Zero, vi c.Hist.Pos.Offset, (vl C D E), vi c.Hist.Neg.Offset, (vl F G H), vi c.Flags], z, z, ⟨[vi c.Int_], [vu c.Re, vu c.Im, vi c.Hist.Scale, vu c.Hist.Zero, vi c.Hist.Pos.Offset, (vl C D E), vi c.Hist.Neg.Offset, (vl F G H), vi c.Flags], z, z, ⟨[vu c.Re], [vu c.Im, vi c.Hist.Scale, vu c.Hist.Zero, vi c.Hist.Pos.Offset, (vl C D E), vi c.Hist.Neg.Offset, (vl F G H), vi c.Flags], z, z, ⟨[vu c.Im], [vi c.Hist.Scale, vu c.Hist.Zero, vi c.Hist.Pos.Offset, (vl C D E), vi c.Hist.Neg.Offset, (vl F G H), vi c.Flags], z, z, ⟨(hl c.Hist (vl C D E) (vl F G H)), [vi c.Flags], z, ⟨[vi c.Hist.Scale], [vu c.Hist.Zero, vi c.Hist.Pos.Offset, (vl C D E), vi c.Hist.Neg.Offset, (vl F G H)], z, z, ⟨[vu c.Hist.Zero], [vi c.Hist.Pos.Offset, (vl C D E), vi c.Hist.Neg.Offset, (vl F G H)], z, z, ⟨[vi c.Hist.Pos.Offset, (vl C D E)], [vi c.Hist.Neg.Offset, (vl F G H)], z, ⟨[vi c.Hist.Pos.Offset], [(vl C D E)], z, z, ⟨_, z, bn⟩⟩, ⟨[vi c.Hist.Neg.Offset], [(vl F G H)], z, z, ⟨_, z, bo⟩⟩⟩⟩⟩, z⟩⟩⟩⟩⟩⟩⟩⟩⟩⟩⟩ aP aQ b1 ?_
         intro ec av ed
         refine nl (At.dq (su_ av z) (WD.y 15 z (by kernel_rfl) (fun _ _ _ => ya z) z (WD.done_ (by kernel_rfl) (th (sq (rg (wY (ym z) z (wY (Y.neq_i z z) z (nl ?_)))))))))
         refine th ?_
         rcases cnd h with ⟨aS, h⟩ | ⟨aS, h⟩
         ·refine WC.condT' z aS (sq (rg (wY (ym z) z (wY (ym z) z (wY (ya z) z (wY (ya z) z (wY (ya z) z (nl (th ?_)))))))))
          refine rt (At.inBlockR ?_)
          have h := outs1 h a5
          refine At.joinR (At.thenR (At.loopR ?_))
          have h := outr1 h ay a2
          refine At.joinBR (At.inBlockR (At.thenR ?_))
          obtain ⟨rfl, rfl, rfl⟩ := tup3 h
          have ee : Stp [11, 12, 13, 14, 16, 1001, 1002] (Lg.O0 A) w aO ec := (tr_ (su_ Q z) (tr_ (su_ K z) (tr_ (su_ L z) (tr_ (su_ d z) (tr_ (su_ m z) (tr_ (su_ j z) (tr_ (su_ l z) (tr_ (su_ M z) (tr_ (su_ aj z) (su_ av z))))))))))
          exact At.res (.inl z) z (.tmp z (.tmp z (.tmp z .nil))) ⟨sn, z, (se_ ee z z), (Or.inl ⟨z, z⟩)⟩
         ·refine WC.condF' z aS (sk (At.inBlock ?_))
          obtain ⟨fh, b2, ef⟩ := OwnSl.rlb 1001 rfl ed
          exact At.join (σ := (List api_Point × Own × Value)) (eb, fh, ad) ⟨go2 h, (tr_ (su_ K z) (tr_ (su_ L z) (tr_ (su_ d z) (tr_ (su_ m z) (tr_ (su_ j z) (tr_ (su_ l z) (tr_ (su_ M z) (tr_ (su_ aj z) (tr_ (su_ av z) (su_ b2 z)))))))))), ef⟩ (.cons z (.cons z (.cons z (.cons z (.cons z (.cons z .nil))))))
    ·rintro ⟨eg, gK, eo⟩ gH ⟨rfl, bp, b3⟩
     replace h := flowK_go a5
     try dsimp only at h bp b3
     refine (show At _ _ _ [(0, v0), (1, vi a1), (7, eo), (14, v0), (15, vi (a0.length : Int)), (16, vi I)] _ from ?_)
     refine th (rg (wY (Y.add_i z z) z (wY (ym z) z (nl ?_))))
     obtain ⟨fi, b4, eh⟩ := OwnSl.rlb 1002 rfl b3
     exact At.round (eg, w64 (I + 1), fi, eo) fv (Nat.lt_succ_self _) ⟨next1 h ay, (tr_ (su_ Q z) (tr_ (su_ bp z) (su_ b4 z))), eh⟩ (.cons z (.cons z (.cons z (.cons z (.cons z (.cons z .nil))))))
   ·refine WC.condF' z a4 (WC.exit (At.thenX (At.loopX ?_)))
    obtain ⟨fj, b5, ei⟩ := OwnSl.rlb 1003 rfl a3
    exact At.hitB (σ := (List api_Point × Own × Value)) (b8, fj, ad) ⟨brk1 h ay, (tr_ (su_ Q z) (su_ b5 z)), ei⟩ (.cons z .nil)
  ·rintro ⟨gi, gL, ep⟩ fk ⟨rfl, bq, b6⟩
   replace h := flowK_go a2
   try dsimp only at h bq b6
   refine (show At _ _ _ [(7, ep)] _ from ?_)
   refine At.inBlockHit (th (sq (rg (wY (ym z) z (wY (ya z) z (wY (ya z) z (wY (ya z) z (nl (th ?_)))))))))
   refine rt ?_
   obtain ⟨rfl, rfl, rfl⟩ := tup3 h
   obtain ⟨fl, b7, ej⟩ := OwnSl.give rfl b6
   have br : Stp [11, 12, 13, 14, 16, 1001, 1002, 1003] (Lg.O0 A) w fl fk := (tr_ (su_ bq z) (su_ b7 z))
   exact At.res (.inl z) z (.tmp z (.tmp z (.tmp z .nil))) ⟨ep, z, (se_ br z z), (Sl.outI ej br low0 O0_A)⟩
theorem c_law36_awake {w : World} {r0 : Bool} (h : law36_awake = some r0) : Rets Try.prog 6 [] w (fun v w' => v = vB r0 ∧ Ext w w') := by
 unfold law36_awake at h
 refine Rets.enter Try.func6 z z ?_
 refine (show WC _ _ _ _ [] _ from ?_)
 refine sq (rg (wY (ya z) z (nl (th (sq (rg (wY (yb (vals := [(0, vs [120]), (2, vi 1), (3, vi 2), (5, vi 5), (6, vi 10), (7, vi 5)]) (cells := [vs [120], sn, vi 1, vi 2, vB false, vi 5, vi 10, vi 5, vu 0, vu 0, vi 0, vu 0, vi 0, sn, vi 0, sn, vi 0]) (fe_ z) (by kernel_rfl)) z (WL.alloc (O := (Lg.O0 (fun _ => False))) 11 [vs [], sn, vi 0, vi 0, vB false, vi 0, vi 0, vi 0, vu 0, vu 0, vi 0, vu 0, vi 0, sn, vi 0, sn, vi 0] ty33 z z ?_))))))))
 intro c6 ce cR az bi
 refine WL.store (v := Value.agg (List.toArray [vs [120], sn, vi 1, vi 2, vB false, vi 5, vi 10, vi 5, vu 0, vu 0, vi 0, vu 0, vi 0, sn, vi 0, sn, vi 0])) (cells' := [vs [120], sn, vi 1, vi 2, vB false, vi 5, vi 10, vi 5, vu 0, vu 0, vi 0, vu 0, vi 0, sn, vi 0, sn, vi 0]) ty33 z z bi z (le_ z) z z ?_
 intro cS aA bj
 refine nl (th (sq (rg (wY (yb (vals := [(0, vs [120]), (2, vi 1), (3, vi 2), (5, vi 10), (6, vi 12), (7, vi 3)]) (cells := [vs [120], sn, vi 1, vi 2, vB false, vi 10, vi 12, vi 3, vu 0, vu 0, vi 0, vu 0, vi 0, sn, vi 0, sn, vi 0]) (fe_ z) (by kernel_rfl)) z (WL.alloc (O := ce) 12 [vs [], sn, vi 0, vi 0, vB false, vi 0, vi 0, vi 0, vu 0, vu 0, vi 0, vu 0, vi 0, sn, vi 0, sn, vi 0] ty33 z z ?_)))))
 intro c7 cf cT Z bk
 refine WL.store (v := Value.agg (List.toArray [vs [120], sn, vi 1, vi 2, vB false, vi 10, vi 12, vi 3, vu 0, vu 0, vi 0, vu 0, vi 0, sn, vi 0, sn, vi 0])) (cells' := [vs [120], sn, vi 1, vi 2, vB false, vi 10, vi 12, vi 3, vu 0, vu 0, vi 0, vu 0, vi 0, sn, vi 0, sn, vi 0]) ty33 z z bk z (le_ z) z z ?_
 intro cU aa bl
 refine nl (th (sq (rg (wY (yb (vals := [(0, vs [120]), (2, vi 1), (3, vi 2), (5, vi 20), (6, vi 25), (7, vi 2)]) (cells := [vs [120], sn, vi 1, vi 2, vB false, vi 20, vi 25, vi 2, vu 0, vu 0, vi 0, vu 0, vi 0, sn, vi 0, sn, vi 0]) (fe_ z) (by kernel_rfl)) z (WL.alloc (O := cf) 13 [vs [], sn, vi 0, vi 0, vB false, vi 0, vi 0, vi 0, vu 0, vu 0, vi 0, vu 0, vi 0, sn, vi 0, sn, vi 0] ty33 z z ?_)))))
 intro c8 cg cV q bm
 refine WL.store (v := Value.agg (List.toArray [vs [120], sn, vi 1, vi 2, vB false, vi 20, vi 25, vi 2, vu 0, vu 0, vi 0, vu 0, vi 0, sn, vi 0, sn, vi 0])) (cells' := [vs [120], sn, vi 1, vi 2, vB false, vi 20, vi 25, vi 2, vu 0, vu 0, vi 0, vu 0, vi 0, sn, vi 0, sn, vi 0]) ty33 z z bm z (le_ z) z z ?_
 intro cW r bn
 refine nl (th (sq (rg ?_)))
 have ad := (((bj.st Z z).st aa z).st q z).st r z
 refine wY (yL ty33 z z (ad.cells 0 [vs [120], sn, vi 1, vi 2, vB false, vi 5, vi 10, vi 5, vu 0, vu 0, vi 0, vu 0, vi 0, sn, vi 0, sn, vi 0] z) z) z ?_
 have ae := (bl.st q z).st r z
 refine wY (yL ty33 z z (ae.cells 0 [vs [120], sn, vi 1, vi 2, vB false, vi 10, vi 12, vi 3, vu 0, vu 0, vi 0, vu 0, vi 0, sn, vi 0, sn, vi 0] z) z) z (wY (yL ty33 z z (bn.cells 0 [vs [120], sn, vi 1, vi 2, vB false, vi 20, vi 25, vi 2, vu 0, vu 0, vi 0, vu 0, vi 0, sn, vi 0, sn, vi 0] z) z) z (WL.buildSlice (O := cg) (R := rep_api_Point) (vals := [(0, Value.agg (List.toArray [vs [120], sn, vi 1, vi 2, vB false, vi 5, vi 10, vi 5, vu 0, vu 0, vi 0, vu 0, vi 0, sn, vi 0, sn, vi 0])), (1, Value.agg (List.toArray [vs [120], sn, vi 1, vi 2, vB false, vi 10, vi 12, vi 3, vu 0, vu 0, vi 0, vu 0, vi 0, sn, vi 0, sn, vi 0])), (2, Value.agg (List.toArray [vs [120], sn, vi 1, vi 2, vB false, vi 20, vi 25, vi 2, vu 0, vu 0, vi 0, vu 0, vi 0, sn, vi 0, sn, vi 0]))]) 14 [vs [120], sn, vi 1, vi 2, vB false, vi 5, vi 10, vi 5, vu 0, vu 0, vi 0, vu 0, vi 0, sn, vi 0, sn, vi 0, vs [120], sn, vi 1, vi 2, vB false, vi 10, vi 12, vi 3, vu 0, vu 0, vi 0, vu 0, vi 0, sn, vi 0, sn, vi 0, vs [120], sn, vi 1, vi 2, vB false, vi 20, vi 25, vi 2, vu 0, vu 0, vi 0, vu 0, vi 0, sn, vi 0, sn, vi 0] (xs := [(api_Point.mk [120] [] 1 2 false 5 10 5 0 0 (api_Hist.mk 0 0 (api_Side.mk 0 []) (api_Side.mk 0 [])) 0), (api_Point.mk [120] [] 1 2 false 10 12 3 0 0 (api_Hist.mk 0 0 (api_Side.mk 0 []) (api_Side.mk 0 [])) 0), (api_Point.mk [120] [] 1 2 false 20 25 2 0 0 (api_Hist.mk 0 0 (api_Side.mk 0 []) (api_Side.mk 0 [])) 0)]) (by decide) ty22 ty33 (by decide) (by decide) (fe_ z) (by kernel_rfl) z ⟨[vs [120], sn, vi 1, vi 2, vB false, vi 5, vi 10, vi 5, vu 0, vu 0, vi 0, vu 0, vi 0, sn, vi 0, sn, vi 0], [vs [120], sn, vi 1, vi 2, vB false, vi 10, vi 12, vi 3, vu 0, vu 0, vi 0, vu 0, vi 0, sn, vi 0, sn, vi 0, vs [120], sn, vi 1, vi 2, vB false, vi 20, vi 25, vi 2, vu 0, vu 0, vi 0, vu 0, vi 0, sn, vi 0, sn, vi 0], z, ⟨[vs [120]], [sn, vi 1, vi 2, vB false, vi 5, vi 10, vi 5, vu 0, vu 0, vi 0, vu 0, vi 0, sn, vi 0, sn, vi 0], z, z, ⟨[sn], [vi 1, vi 2, vB false, vi 5, vi 10, vi 5, vu 0, vu 0, vi 0, vu 0, vi 0, sn, vi 0, sn, vi 0], z, ⟨_, z, (Or.inl ⟨z, z⟩)⟩, ⟨[vi 1], [vi 2, vB false, vi 5, vi 10, vi 5, vu 0, vu 0, vi 0, vu 0, vi 0, sn, vi 0, sn, vi 0], z, z, ⟨[vi 2], [vB false, vi 5, vi 10, vi 5, vu 0, vu 0, vi 0, vu 0, vi 0, sn, vi 0, sn, vi 0], z, z, ⟨[vB false], [vi 5, vi 10, vi 5, vu 0, vu 0, vi 0, vu 0, vi 0, sn, vi 0, sn, vi 0], z, z, ⟨[vi 5], [vi 10, vi 5, vu 0, vu 0, vi 0, vu 0, vi 0, sn, vi 0, sn, vi 0], z, z, ⟨[vi 10], [vi 5, vu 0, vu 0, vi 0, vu 0, vi 0, sn, vi 0, sn, vi 0], z, z, ⟨[vi 5], [vu 0, vu 0, vi 0, vu 0, vi 0, sn, vi 0, sn, vi 0], z, z, ⟨[vu 0], [vu 0, vi 0, vu 0, vi 0, sn, vi 0, sn, vi 0], z, z, ⟨[vu 0], [vi 0, vu 0, vi 0, sn, vi 0, sn, vi 0], z, z, ⟨hzr, [vi 0], z, ⟨[vi 0], [vu 0, vi 0, sn, vi 0, sn], z, z, ⟨[vu 0], [vi 0, sn, vi 0, sn], z, z, ⟨[vi 0, sn], [vi 0, sn], z, ⟨[vi 0], [sn], z, z, ⟨_, z, (Or.inl ⟨z, z⟩)⟩⟩, ⟨[vi 0], [sn], z, z, ⟨_, z, (Or.inl ⟨z, z⟩)⟩⟩⟩⟩⟩, z⟩⟩⟩⟩⟩⟩⟩⟩⟩⟩⟩, ⟨[vs [120], sn, vi 1, vi 2, vB false, vi 10, vi 12, vi 3, vu 0, vu 0, vi 0, vu 0, vi 0, sn, vi 0, sn, vi 0], [vs [120], sn, vi 1, vi 2, vB false, vi 20, vi 25, vi 2, vu 0, vu 0, vi 0, vu 0, vi 0, sn, vi 0, sn, vi 0], z, ⟨[vs [120]], [sn, vi 1, vi 2, vB false, vi 10, vi 12, vi 3, vu 0, vu 0, vi 0, vu 0, vi 0, sn, vi 0, sn, vi 0], z, z, ⟨[sn], [vi 1, vi 2, vB false, vi 10, vi 12, vi 3, vu 0, vu 0, vi 0, vu 0, vi 0, sn, vi 0, sn, vi 0], z, ⟨_, z, (Or.inl ⟨z, z⟩)⟩, ⟨[vi 1], [vi 2, vB false, vi 10, vi 12, vi 3, vu 0, vu 0, vi 0, vu 0, vi 0, sn, vi 0, sn, vi 0], z, z, ⟨[vi 2], [vB false, vi 10, vi 12, vi 3, vu 0, vu 0, vi 0, vu 0, vi 0, sn, vi 0, sn, vi 0], z, z, ⟨[vB false], [vi 10, vi 12, vi 3, vu 0, vu 0, vi 0, vu 0, vi 0, sn, vi 0, sn, vi 0], z, z, ⟨[vi 10], [vi 12, vi 3, vu 0, vu 0, vi 0, vu 0, vi 0, sn, vi 0, sn, vi 0], z, z, ⟨[vi 12], [vi 3, vu 0, vu 0, vi 0, vu 0, vi 0, sn, vi 0, sn, vi 0], z, z, ⟨[vi 3], [vu 0, vu 0, vi 0, vu 0, vi 0, sn, vi 0, sn, vi 0], z, z, ⟨[vu 0], [vu 0, vi 0, vu 0, vi 0, sn, vi 0, sn, vi 0], z, z, ⟨[vu 0], [vi 0, vu 0, vi 0, sn, vi 0, sn, vi 0], z, z, ⟨hzr, [vi 0], z, ⟨[vi 0], [vu 0, vi 0, sn, vi 0, sn], z, z, ⟨[vu 0], [vi 0, sn, vi 0, sn], z, z, ⟨[vi 0, sn], [vi 0, sn], z, ⟨[vi 0], [sn], z, z, ⟨_, z, (Or.inl ⟨z, z⟩)⟩⟩, ⟨[vi 0], [sn], z, z, ⟨_, z, (Or.inl ⟨z, z⟩)⟩⟩⟩⟩⟩, z⟩⟩⟩⟩⟩⟩⟩⟩⟩⟩⟩, ⟨[vs [120], sn, vi 1, vi 2, vB false, vi 20, vi 25, vi 2, vu 0, vu 0, vi 0, vu 0, vi 0, sn, vi 0, sn, vi 0], [], z, ⟨[vs [120]], [sn, vi 1, vi 2, vB false, vi 20, vi 25, vi 2, vu 0, vu 0, vi 0, vu 0, vi 0, sn, vi 0, sn, vi 0], z, z, ⟨[sn], [vi 1, vi 2, vB false, vi 20, vi 25, vi 2, vu 0, vu 0, vi 0, vu 0, vi 0, sn, vi 0, sn, vi 0], z, ⟨_, z, (Or.inl ⟨z, z⟩)⟩, ⟨[vi 1], [vi 2, vB false, vi 20, vi 25, vi 2, vu 0, vu 0, vi 0, vu 0, vi 0, sn, vi 0, sn, vi 0], z, z, ⟨[vi 2], [vB false, vi 20, vi 25, vi 2, vu 0, vu 0, vi 0, vu 0, vi 0, sn, vi 0, sn, vi 0], z, z, ⟨[vB false], [vi 20, vi 25, vi 2, vu 0, vu 0, vi 0, vu 0, vi 0, sn, vi 0, sn, vi 0], z, z, ⟨[vi 20], [vi 25, vi 2, vu 0, vu 0, vi 0, vu 0, vi 0, sn, vi 0, sn, vi 0], z, z, ⟨[vi 25], [vi 2, vu 0, vu 0, vi 0, vu 0, vi 0, sn, vi 0, sn, vi 0], z, z, ⟨[vi 2], [vu 0, vu 0, vi 0, vu 0, vi 0, sn, vi 0, sn, vi 0], z, z, ⟨[vu 0], [vu 0, vi 0, vu 0, vi 0, sn, vi 0, sn, vi 0], z, z, ⟨[vu 0], [vi 0, vu 0, vi 0, sn, vi 0, sn, vi 0], z, z, ⟨hzr, [vi 0], z, ⟨[vi 0], [vu 0, vi 0, sn, vi 0, sn], z, z, ⟨[vu 0], [vi 0, sn, vi 0, sn], z, z, ⟨[vi 0, sn], [vi 0, sn], z, ⟨[vi 0], [sn], z, z, ⟨_, z, (Or.inl ⟨z, z⟩)⟩⟩, ⟨[vi 0], [sn], z, z, ⟨_, z, (Or.inl ⟨z, z⟩)⟩⟩⟩⟩⟩, z⟩⟩⟩⟩⟩⟩⟩⟩⟩⟩⟩, z⟩⟩⟩ z ?_))
 intro ch c9 cX t bs
 obtain ⟨af, C, bt⟩ := OwnSl.give rfl bs
 obtain ⟨⟨Q, da, ab⟩, bu, h⟩ := bnd h
 refine WL.call (vals := [ch, vi 20]) kok8 z z (c_rollup_Roll (A := imm af) bt bu) ?_
 rintro cY bw ⟨o, rfl, bx, ci⟩
 obtain ⟨bh, ah, ai, D⟩ := adoptE af (fun k => 1) bx
 have p : Sl rep_api_Point bw (imm bh) o Q := Sl.adoptI (O := af) ci (fun _ hk => hk) (fun _ _ => Nat.le_refl _) ah ai
 refine wY (ym z) z (wY (yx z z) z (wY (yx z z) z (wY (yx z z) z (wY (ya z) z (wY (ya z) z (wY (ya z) z (nl (th (sq ?_)))))))))
 refine rg ?_
 have bB := ((ae.st t z).st C z).st D z
 refine wY (yL ty33 z z (bB.cells 0 [vs [120], sn, vi 1, vi 2, vB false, vi 10, vi 12, vi 3, vu 0, vu 0, vi 0, vu 0, vi 0, sn, vi 0, sn, vi 0] z) z) z ?_
 have bE := ((ad.st t z).st C z).st D z
 refine wY (yL ty33 z z (bE.cells 0 [vs [120], sn, vi 1, vi 2, vB false, vi 5, vi 10, vi 5, vu 0, vu 0, vi 0, vu 0, vi 0, sn, vi 0, sn, vi 0] z) z) z (WL.buildSlice (O := bh) (R := rep_api_Point) (vals := [(0, Value.agg (List.toArray [vs [120], sn, vi 1, vi 2, vB false, vi 10, vi 12, vi 3, vu 0, vu 0, vi 0, vu 0, vi 0, sn, vi 0, sn, vi 0])), (1, Value.agg (List.toArray [vs [120], sn, vi 1, vi 2, vB false, vi 5, vi 10, vi 5, vu 0, vu 0, vi 0, vu 0, vi 0, sn, vi 0, sn, vi 0]))]) 15 [vs [120], sn, vi 1, vi 2, vB false, vi 10, vi 12, vi 3, vu 0, vu 0, vi 0, vu 0, vi 0, sn, vi 0, sn, vi 0, vs [120], sn, vi 1, vi 2, vB false, vi 5, vi 10, vi 5, vu 0, vu 0, vi 0, vu 0, vi 0, sn, vi 0, sn, vi 0] (xs := [(api_Point.mk [120] [] 1 2 false 10 12 3 0 0 (api_Hist.mk 0 0 (api_Side.mk 0 []) (api_Side.mk 0 [])) 0), (api_Point.mk [120] [] 1 2 false 5 10 5 0 0 (api_Hist.mk 0 0 (api_Side.mk 0 []) (api_Side.mk 0 [])) 0)]) (by decide) ty22 ty33 (by decide) (by decide) (fe_ z) (by kernel_rfl) z ⟨[vs [120], sn, vi 1, vi 2, vB false, vi 10, vi 12, vi 3, vu 0, vu 0, vi 0, vu 0, vi 0, sn, vi 0, sn, vi 0], [vs [120], sn, vi 1, vi 2, vB false, vi 5, vi 10, vi 5, vu 0, vu 0, vi 0, vu 0, vi 0, sn, vi 0, sn, vi 0], z, ⟨[vs [120]], [sn, vi 1, vi 2, vB false, vi 10, vi 12, vi 3, vu 0, vu 0, vi 0, vu 0, vi 0, sn, vi 0, sn, vi 0], z, z, ⟨[sn], [vi 1, vi 2, vB false, vi 10, vi 12, vi 3, vu 0, vu 0, vi 0, vu 0, vi 0, sn, vi 0, sn, vi 0], z, ⟨_, z, (Or.inl ⟨z, z⟩)⟩, ⟨[vi 1], [vi 2, vB false, vi 10, vi 12, vi 3, vu 0, vu 0, vi 0, vu 0, vi 0, sn, vi 0, sn, vi 0], z, z, ⟨[vi 2], [vB false, vi 10, vi 12, vi 3, vu 0, vu 0, vi 0, vu 0, vi 0, sn, vi 0, sn, vi 0], z, z, ⟨[vB false], [vi 10, vi 12, vi 3, vu 0, vu 0, vi 0, vu 0, vi 0, sn, vi 0, sn, vi 0], z, z, ⟨[vi 10], [vi 12, vi 3, vu 0, vu 0, vi 0, vu 0, vi 0, sn, vi 0, sn, vi 0], z, z, ⟨[vi 12], [vi 3, vu 0, vu 0, vi 0, vu 0, vi 0, sn, vi 0, sn, vi 0], z, z, ⟨[vi 3], [vu 0, vu 0, vi 0, vu 0, vi 0, sn, vi 0, sn, vi 0], z, z, ⟨[vu 0], [vu 0, vi 0, vu 0, vi 0, sn, vi 0, sn, vi 0], z, z, ⟨[vu 0], [vi 0, vu 0, vi 0, sn, vi 0, sn, vi 0], z, z, ⟨hzr, [vi 0], z, ⟨[vi 0], [vu 0, vi 0, sn, vi 0, sn], z, z, ⟨[vu 0], [vi 0, sn, vi 0, sn], z, z, ⟨[vi 0, sn], [vi 0, sn], z, ⟨[vi 0], [sn], z, z, ⟨_, z, (Or.inl ⟨z, z⟩)⟩⟩, ⟨[vi 0], [sn], z, z, ⟨_, z, (Or.inl ⟨z, z⟩)⟩⟩⟩⟩⟩, z⟩⟩⟩⟩⟩⟩⟩⟩⟩⟩⟩, ⟨[vs [120], sn, vi 1, vi 2, vB false, vi 5, vi 10, vi 5, vu 0, vu 0, vi 0, vu 0, vi 0, sn, vi 0, sn, vi 0], [], z, ⟨[vs [120]], [sn, vi 1, vi 2, vB false, vi 5, vi 10, vi 5, vu 0, vu 0, vi 0, vu 0, vi 0, sn, vi 0, sn, vi 0], z, z, ⟨[sn], [vi 1, vi 2, vB false, vi 5, vi 10, vi 5, vu 0, vu 0, vi 0, vu 0, vi 0, sn, vi 0, sn, vi 0], z, ⟨_, z, (Or.inl ⟨z, z⟩)⟩, ⟨[vi 1], [vi 2, vB false, vi 5, vi 10, vi 5, vu 0, vu 0, vi 0, vu 0, vi 0, sn, vi 0, sn, vi 0], z, z, ⟨[vi 2], [vB false, vi 5, vi 10, vi 5, vu 0, vu 0, vi 0, vu 0, vi 0, sn, vi 0, sn, vi 0], z, z, ⟨[vB false], [vi 5, vi 10, vi 5, vu 0, vu 0, vi 0, vu 0, vi 0, sn, vi 0, sn, vi 0], z, z, ⟨[vi 5], [vi 10, vi 5, vu 0, vu 0, vi 0, vu 0, vi 0, sn, vi 0, sn, vi 0], z, z, ⟨[vi 10], [vi 5, vu 0, vu 0, vi 0, vu 0, vi 0, sn, vi 0, sn, vi 0], z, z, ⟨[vi 5], [vu 0, vu 0, vi 0, vu 0, vi 0, sn, vi 0, sn, vi 0], z, z, ⟨[vu 0], [vu 0, vi 0, vu 0, vi 0, sn, vi 0, sn, vi 0], z, z, ⟨[vu 0], [vi 0, vu 0, vi 0, sn, vi 0, sn, vi 0], z, z, ⟨hzr, [vi 0], z, ⟨[vi 0], [vu 0, vi 0, sn, vi 0, sn], z, z, ⟨[vu 0], [vi 0, sn, vi 0, sn], z, z, ⟨[vi 0, sn], [vi 0, sn], z, ⟨[vi 0], [sn], z, z, ⟨_, z, (Or.inl ⟨z, z⟩)⟩⟩, ⟨[vi 0], [sn], z, z, ⟨_, z, (Or.inl ⟨z, z⟩)⟩⟩⟩⟩⟩, z⟩⟩⟩⟩⟩⟩⟩⟩⟩⟩⟩, z⟩⟩ z ?_)
 intro cj db cZ l bF
 obtain ⟨aj, m, bG⟩ := OwnSl.give rfl bF
 obtain ⟨⟨ck, a, c⟩, bH, h⟩ := bnd h
 refine WL.call (vals := [cj, vi 20]) kok8 z z (c_rollup_Roll (A := imm aj) bG bH) ?_
 rintro c0 d ⟨cl, rfl, bI, cm⟩
 obtain ⟨ac, ak, al, n⟩ := adoptE aj (fun k => 1) bI
 have c1 : Sl rep_api_Point d (imm ac) cl ck := Sl.adoptI (O := aj) cm (fun _ hk => hk) (fun _ _ => Nat.le_refl _) ak al
 refine wY (ym z) z (wY (yx z z) z (wY (yx z z) z (wY (yx z z) z (wY (ya z) z (wY (ya z) z (wY (ya z) z (nl (th (sq ?_)))))))))
 refine rg (wY (ym z) z (wY (Y.eql_i z z) z (wY (ym z) z ?_)))
 refine WL.cut 4 (σ := Unit) (fun _ w' => d = w') (fun _ => [(4, o), (8, vi a), (9, vi c), (36, vB ((decide (ab = 0)) && (decide ((Q.length : Int) = 2))))]) ?_ ?_
 ·refine WL.part 32 z (fun T => ?_) (fun T => ?_)
  ·refine ug z z (wY (ym z) z (ug z z ?_))
   have bL := ((p.i l z z).i m z z).i n z z
   refine wY (Y.len ty22 z bL) z (ug z z (wY (Y.eql_i z z) z (wY (Y.pick (b := true) z z) z (WL.ren (v' := vB ((decide (ab = 0)) && (decide ((Q.length : Int) = 2)))) 36 z (congrArg vB (andT T)) ?_))))
   exact nl (At.join () z (.cons z (.cons z (.cons z (.cons z .nil)))))
  ·refine WL.gS z z z z (WL.gS z z z z (WL.gS z z z z (wY (Y.pick (b := false) z z) z (WL.ren (v' := vB ((decide (ab = 0)) && (decide ((Q.length : Int) = 2)))) 36 z (congrArg vB (andF T)) ?_))))
   exact nl (At.join () z (.cons z (.cons z (.cons z (.cons z .nil)))))
 ·rintro _ _ rfl
  refine (show WL _ _ _ _ _ [(4, o), (8, vi a), (9, vi c), (36, vB ((decide (ab = 0)) && (decide ((Q.length : Int) = 2))))] _ from ?_)
  refine wY (ym z) z ?_
  obtain ⟨cn, h, bM⟩ := bnd h
  refine WL.cut 6 (σ := Bool) (fun x w' => x = cn ∧ d = w') (fun x => [(4, o), (8, vi a), (9, vi c), (43, vB x)]) ?_ ?_
  ·rcases cnd h with ⟨U, h⟩ | ⟨U, h⟩
   ·refine WL.ren 37 z (congrArg vB U) (ug z z (wY (ym z) z (ug z z ?_)))
    obtain ⟨am, bO, h⟩ := bnd h
    have aE := ((p.i l z z).i m z z).i n z z
    obtain ⟨c2, co, cq, cy, aF, aG, aH, E, an, aI⟩ := Sl.at2 aE bO
    obtain ⟨_, _, rfl, rfl, ⟨_, _, rfl, ⟨bP, rfl, cz⟩, ⟨_, _, rfl, rfl, ⟨_, _, rfl, rfl, ⟨_, _, rfl, rfl, ⟨_, _, rfl, rfl, ⟨_, _, rfl, rfl, ⟨_, _, rfl, rfl, ⟨_, _, rfl, rfl, ⟨_, _, rfl, rfl, ⟨_, _, rfl, ⟨_, _, rfl, rfl, ⟨_, _, rfl, rfl, ⟨_, _, rfl, ⟨_, _, rfl, rfl, ⟨bQ, rfl, cA⟩⟩, ⟨_, _, rfl, rfl, ⟨bR, rfl, cC⟩⟩⟩⟩⟩, rfl⟩⟩⟩⟩⟩⟩⟩⟩⟩⟩⟩ := an
    replace E : CellsAt _ _ _ (cp am bP bQ bR) := E
    have ao := CAt.imm E aI
    refine wY (Y.indexAddr ty22 ty33 z aF z aG aH) z (ug z z (wY (yf fo33_7 z) z (ug z z (wY (yl ty3 z z (ao.at_.sub 7 [vi am.Int_] z)) z (ug z z (wY (Y.eql_i z z) z (wY (Y.pick (b := true) z z) z ?_)))))))
    exact nl (At.join (σ := Bool) (decide (am.Int_ = 8)) ⟨some1 h, z⟩ (.cons z (.cons z (.cons z (.cons z .nil)))))
   ·refine WL.ren 37 z (congrArg vB U) (WL.gS z z z z (WL.gS z z z z (WL.gS z z z z (WL.gS z z z z (WL.gS z z z z (wY (Y.pick (b := false) z z) z ?_))))))
    exact nl (At.join (σ := Bool) false ⟨some1 h, z⟩ (.cons z (.cons z (.cons z (.cons z .nil)))))
  ·rintro cr _ ⟨rfl, rfl⟩
   replace h := bM
   try dsimp only at h
   refine (show WL _ _ _ _ _ [(4, o), (8, vi a), (9, vi c), (43, vB cr)] _ from ?_)
   refine wY (ym z) z ?_
   obtain ⟨bS, h, aJ⟩ := bnd h
   refine WL.cut 6 (σ := Bool) (fun x w' => x = bS ∧ d = w') (fun x => [(4, o), (8, vi a), (9, vi c), (50, vB x)]) ?_ ?_
   ·rcases cnd h with ⟨F, h⟩ | ⟨F, h⟩
    ·refine WL.ren 44 z (congrArg vB F) (ug z z (wY (ym z) z (ug z z ?_)))
     obtain ⟨V, aK, h⟩ := bnd h
     have aN := ((p.i l z z).i m z z).i n z z
     obtain ⟨c3, cs, ct, cD, aO, aP, aQ, G, ap, aR⟩ := Sl.at2 aN aK
     obtain ⟨_, _, rfl, rfl, ⟨_, _, rfl, ⟨bT, rfl, cE⟩, ⟨_, _, rfl, rfl, ⟨_, _, rfl, rfl, ⟨_, _, rfl, rfl, ⟨_, _, rfl, rfl, ⟨_, _, rfl, rfl, ⟨_, _, rfl, rfl, ⟨_, _, rfl, rfl, ⟨_, _, rfl, rfl, ⟨_, _, rfl, ⟨_, _, rfl, rfl, ⟨_, _, rfl, rfl, ⟨_, _, rfl, ⟨_, _, rfl, rfl, ⟨bU, rfl, cF⟩⟩, ⟨_, _, rfl, rfl, ⟨bW, rfl, cG⟩⟩⟩⟩⟩, rfl⟩⟩⟩⟩⟩⟩⟩⟩⟩⟩⟩ := ap
     replace G : CellsAt _ _ _ (cp V bT bU bW) := G
     have aq := CAt.imm G aR
     refine wY (Y.indexAddr ty22 ty33 z aO z aP aQ) z (ug z z (wY (yf fo33_5 z) z (ug z z (wY (yl ty3 z z (aq.at_.sub 5 [vi V.Start] z)) z (ug z z (wY (Y.eql_i z z) z (wY (Y.pick (b := true) z z) z ?_)))))))
     exact nl (At.join (σ := Bool) (decide (V.Start = 5)) ⟨some1 h, z⟩ (.cons z (.cons z (.cons z (.cons z .nil)))))
    ·refine WL.ren 44 z (congrArg vB F) (WL.gS z z z z (WL.gS z z z z (WL.gS z z z z (WL.gS z z z z (WL.gS z z z z (wY (Y.pick (b := false) z z) z ?_))))))
     exact nl (At.join (σ := Bool) false ⟨some1 h, z⟩ (.cons z (.cons z (.cons z (.cons z .nil)))))
   ·rintro bX _ ⟨rfl, rfl⟩
    replace h := aJ
    try dsimp only at h
    refine (show WL _ _ _ _ _ [(4, o), (8, vi a), (9, vi c), (50, vB bX)] _ from ?_)
    refine wY (ym z) z ?_
    obtain ⟨bY, h, aS⟩ := bnd h
    refine WL.cut 6 (σ := Bool) (fun x w' => x = bY ∧ d = w') (fun x => [(4, o), (8, vi a), (9, vi c), (57, vB x)]) ?_ ?_
    ·rcases cnd h with ⟨H, h⟩ | ⟨H, h⟩
     ·refine WL.ren 51 z (congrArg vB H) (ug z z (wY (ym z) z (ug z z ?_)))
      obtain ⟨W, aT, h⟩ := bnd h
      have aX := ((p.i l z z).i m z z).i n z z
      obtain ⟨c4, cu, cv, cH, aY, aZ, a0, I, ar, a1⟩ := Sl.at2 aX aT
      obtain ⟨_, _, rfl, rfl, ⟨_, _, rfl, ⟨bZ, rfl, cI⟩, ⟨_, _, rfl, rfl, ⟨_, _, rfl, rfl, ⟨_, _, rfl, rfl, ⟨_, _, rfl, rfl, ⟨_, _, rfl, rfl, ⟨_, _, rfl, rfl, ⟨_, _, rfl, rfl, ⟨_, _, rfl, rfl, ⟨_, _, rfl, ⟨_, _, rfl, rfl, ⟨_, _, rfl, rfl, ⟨_, _, rfl, ⟨_, _, rfl, rfl, ⟨b0, rfl, cJ⟩⟩, ⟨_, _, rfl, rfl, ⟨b1, rfl, cK⟩⟩⟩⟩⟩, rfl⟩⟩⟩⟩⟩⟩⟩⟩⟩⟩⟩ := ar
      replace I : CellsAt _ _ _ (cp W bZ b0 b1) := I
      have au := CAt.imm I a1
      refine wY (Y.indexAddr ty22 ty33 z aY z aZ a0) z (ug z z (wY (yf fo33_6 z) z (ug z z (wY (yl ty3 z z (au.at_.sub 6 [vi W.Time] z)) z (ug z z (wY (Y.eql_i z z) z (wY (Y.pick (b := true) z z) z ?_)))))))
      exact nl (At.join (σ := Bool) (decide (W.Time = 12)) ⟨some1 h, z⟩ (.cons z (.cons z (.cons z (.cons z .nil)))))
     ·refine WL.ren 51 z (congrArg vB H) (WL.gS z z z z (WL.gS z z z z (WL.gS z z z z (WL.gS z z z z (WL.gS z z z z (wY (Y.pick (b := false) z z) z ?_))))))
      exact nl (At.join (σ := Bool) false ⟨some1 h, z⟩ (.cons z (.cons z (.cons z (.cons z .nil)))))
    ·rintro b2 _ ⟨rfl, rfl⟩
     replace h := aS
     try dsimp only at h
     refine (show WL _ _ _ _ _ [(4, o), (8, vi a), (9, vi c), (57, vB b2)] _ from ?_)
     refine wY (ym z) z ?_
     obtain ⟨b3, h, a2⟩ := bnd h
     refine WL.cut 6 (σ := Bool) (fun x w' => x = b3 ∧ d = w') (fun x => [(8, vi a), (9, vi c), (64, vB x)]) ?_ ?_
     ·rcases cnd h with ⟨J, h⟩ | ⟨J, h⟩
      ·refine WL.ren 58 z (congrArg vB J) (ug z z (wY (ym z) z (ug z z ?_)))
       obtain ⟨X, a3, h⟩ := bnd h
       have a6 := ((p.i l z z).i m z z).i n z z
       obtain ⟨c5, cw, cx, cL, a7, a8, a9, K, av, ba⟩ := Sl.at2 a6 a3
       obtain ⟨_, _, rfl, rfl, ⟨_, _, rfl, ⟨b4, rfl, cM⟩, ⟨_, _, rfl, rfl, ⟨_, _, rfl, rfl, ⟨_, _, rfl, rfl, ⟨_, _, rfl, rfl, ⟨_, _, rfl, rfl, ⟨_, _, rfl, rfl, ⟨_, _, rfl, rfl, ⟨_, _, rfl, rfl, ⟨_, _, rfl, ⟨_, _, rfl, rfl, ⟨_, _, rfl, rfl, ⟨_, _, rfl, ⟨_, _, rfl, rfl, ⟨b5, rfl, cN⟩⟩, ⟨_, _, rfl, rfl, ⟨b6, rfl, cO⟩⟩⟩⟩⟩, rfl⟩⟩⟩⟩⟩⟩⟩⟩⟩⟩⟩ := av
       replace K : CellsAt _ _ _ (cp X b4 b5 b6) := K
       have ax := CAt.imm K ba
       refine wY (Y.indexAddr ty22 ty33 z a7 z a8 a9) z (ug z z (wY (yf fo33_7 z) z (ug z z (wY (yl ty3 z z (ax.at_.sub 7 [vi X.Int_] z)) z (ug z z (wY (Y.eql_i z z) z (wY (Y.pick (b := true) z z) z ?_)))))))
       exact nl (At.join (σ := Bool) (decide (X.Int_ = 2)) ⟨some1 h, z⟩ (.cons z (.cons z (.cons z .nil))))
      ·refine WL.ren 58 z (congrArg vB J) (WL.gS z z z z (WL.gS z z z z (WL.gS z z z z (WL.gS z z z z (WL.gS z z z z (wY (Y.pick (b := false) z z) z ?_))))))
       exact nl (At.join (σ := Bool) false ⟨some1 h, z⟩ (.cons z (.cons z (.cons z .nil))))
     ·rintro j _ ⟨rfl, rfl⟩
      replace h := a2
      try dsimp only at h
      refine (show WL _ _ _ _ _ [(8, vi a), (9, vi c), (64, vB j)] _ from ?_)
      refine wY (ym z) z ?_
      refine WL.cut 3 (σ := Unit) (fun _ w' => d = w') (fun _ => [(9, vi c), (68, vB (j && (decide (a = 1))))]) ?_ ?_
      ·refine WL.part 65 z (fun L => ?_) (fun L => ?_)
       ·refine ug z z (wY (ym z) z (ug z z (wY (Y.eql_i z z) z (wY (Y.pick (b := true) z z) z (WL.ren (v' := vB (j && (decide (a = 1)))) 68 z (congrArg vB (andT L)) ?_)))))
        exact nl (At.join () z (.cons z (.cons z .nil)))
       ·refine WL.gS z z z z (WL.gS z z z z (wY (Y.pick (b := false) z z) z (WL.ren (v' := vB (j && (decide (a = 1)))) 68 z (congrArg vB (andF L)) ?_)))
        exact nl (At.join () z (.cons z (.cons z .nil)))
      ·rintro _ _ rfl
       refine (show WL _ _ _ _ _ [(9, vi c), (68, vB (j && (decide (a = 1))))] _ from ?_)
       refine wY (ym z) z ?_
       refine WL.cut 3 (σ := Unit) (fun _ w' => d = w') (fun _ => [(72, vB ((j && (decide (a = 1))) && (decide (c = 9))))]) ?_ ?_
       ·refine WL.part 69 z (fun M => ?_) (fun M => ?_)
        ·refine ug z z (wY (ym z) z (ug z z (wY (Y.eql_i z z) z (wY (Y.pick (b := true) z z) z (WL.ren (v' := vB ((j && (decide (a = 1))) && (decide (c = 9)))) 72 z (congrArg vB (andT M)) ?_)))))
         exact nl (At.join () z (.cons z .nil))
        ·refine WL.gS z z z z (WL.gS z z z z (wY (Y.pick (b := false) z z) z (WL.ren (v' := vB ((j && (decide (a = 1))) && (decide (c = 9)))) 72 z (congrArg vB (andF M)) ?_)))
         exact nl (At.join () z (.cons z .nil))
       ·rintro _ _ rfl
        refine (show WL _ _ _ _ _ [(72, vB ((j && (decide (a = 1))) && (decide (c = 9))))] _ from ?_)
        refine wY (ym z) z ?_
        obtain ⟨b7, h, bb⟩ := bnd h
        refine WL.cut 3 (σ := (Bool × Own)) (fun x w' => x.1 = b7 ∧ Stp [] ac d x.2 w') (fun x => [(76, vB x.1)]) ?_ ?_
        ·rcases cnd h with ⟨P, h⟩ | ⟨P, h⟩
         ·refine WL.ren 73 z (congrArg vB P) (ug z z ?_)
          obtain ⟨b8, bc, h⟩ := bnd h
          refine WL.call (vals := [vi 12, vi 5]) kok17 z z (c_rollup_Window bc) ?_
          rintro cP cQ ⟨rfl, bd⟩
          obtain ⟨b9, cc, cd, ay⟩ := adoptE ac (fun k => 1) bd
          refine ug z z (wY (Y.eql_i z z) z (wY (Y.pick (b := true) z z) z ?_))
          exact nl (At.join (σ := (Bool × Own)) (decide (b8 = 2), b9) ⟨some1 h, (su_ ay z)⟩ (.cons z .nil))
         ·refine WL.ren 73 z (congrArg vB P) (WL.gS z z z z (WL.gS z z z z (wY (Y.pick (b := false) z z) z ?_)))
          exact nl (At.join (σ := (Bool × Own)) (false, ac) ⟨some1 h, (sr_ _ _ _)⟩ (.cons z .nil))
        ·rintro ⟨ca, cb⟩ bf ⟨rfl, S⟩
         replace h := bb
         try dsimp only at h S
         refine (show WL _ _ _ _ _ [(76, vB ca)] _ from ?_)
         refine wY (ya z) z (nl (th (rt ?_)))
         obtain rfl := some1 h
         have bg : Stp [11, 12, 13, 14, 15] (Lg.O0 (fun _ => False)) w cb bf := (tr_ (su_ az z) (tr_ (su_ aA z) (tr_ (su_ Z z) (tr_ (su_ aa z) (tr_ (su_ q z) (tr_ (su_ r z) (tr_ (su_ t z) (tr_ (su_ C z) (tr_ (su_ D z) (tr_ (su_ l z) (tr_ (su_ m z) (tr_ (su_ n z) (su_ S z)))))))))))))
         exact At.res (.inl z) z (.tmp z .nil) ⟨z, (se_ bg z z)⟩
theorem c_ref11_Light {A : Nat → Prop} {a0 : List api_Pair} {v0 : Value} {w : World} (hs0 : Sl rep_api_Pair w A v0 a0) {r0 : Bool} (h : ref11_Light a0 = some r0) : Rets Try.prog 35 [v0] w (fun v w' => v = vB r0 ∧ Ext w w') := by
 unfold ref11_Light at h
 refine Rets.enter Try.func35 z z ?_
 have a : Sl rep_api_Pair w (imm (Lg.O0 A)) v0 a0 := (Sl.start hs0)
 refine (show WC _ _ _ _ [(0, v0)] _ from ?_)
 refine sq (rg (wY (ya z) z (nl (th (sq (sq (rg (wY (ym z) z (wY (Y.len ty25 z a) z ?_)))))))))
 refine wY (Y.gtr_i z z) z (nl (th ?_))
 rcases cnd h with ⟨c, h⟩ | ⟨c, h⟩
 ·refine WC.condT' z c (sq (rg (wY (ya z) z (nl (th (rt (At.thenR ?_)))))))
  obtain rfl := some1 h
  have I : Stp [] (Lg.O0 A) w (Lg.O0 A) w := (sr_ _ _ _)
  exact At.res (.inl z) z (.tmp z .nil) ⟨z, (se_ I z z)⟩
 ·refine WC.condF' z c (sk (th (sq (sq (rg (wY (ya z) z (nl (th (WC.block ?_)))))))))
  obtain ⟨G, h, q⟩ := flow1 h
  obtain ⟨H, h⟩ := loop_some h
  refine WC.joinB 0 (σ := Unit) (fun x w' => G = .go () ∧ w = w') (fun x => []) ?_ ?_
  ·refine WC.loop (σ := Int) (fun x k w' => loopN k (ref11_Light_lp1 a0) x = some G ∧ w = w') (fun x => [(0, v0), (3, vi x)]) 0 H (.cons z (.cons z .nil)) ⟨h, z⟩ ?_
   rintro r H _ ⟨h, rfl⟩
   obtain ⟨ab, am, rfl, h, d⟩ := rnd1 h
   unfold ref11_Light_lp1 at h
   try dsimp only at h
   refine (show WC _ _ _ _ [(0, v0), (3, vi r)] _ from ?_)
   refine sq (sq (rg (wY (ym z) z (wY (ym z) z (wY (Y.len ty25 z a) z (wY (Y.lss_i z z) z (nl (th ?_))))))))
   rcases cnd h with ⟨j, h⟩ | ⟨j, h⟩
   ·refine WC.condT' z j (sk (th (sq (WC.block (sq (rg (wY (ym z) z (wY (ym z) z ?_))))))))
    obtain ⟨t, J, h⟩ := bnd h
    obtain ⟨an, af, ah, ak, K, L, M, l, C, P⟩ := Sl.at2 a J
    obtain ⟨_, _, rfl, rfl, rfl⟩ := C
    replace l : CellsAt _ _ _ [vs t.Key, vs t.Val] := l
    have D := CAt.imm l P
    refine wY (Y.indexAddr ty25 ty65 z K z L M) z (wY (yf fo65_0 z) z (wY (yl ty9 z z (D.at_.sub 0 [vs t.Key] z)) z (wY (Y.len_s ty9 z) z (wY (Y.gtr_i z z) z (wY (ym z) z ?_)))))
    obtain ⟨ac, h, Q⟩ := bnd h
    refine WL.cut 8 (σ := Bool) (fun x w' => x = ac ∧ w = w') (fun x => [(0, v0), (3, vi r), (28, vB x)]) ?_ ?_
    ·rcases cnd h with ⟨m, h⟩ | ⟨m, h⟩
     ·refine WL.ren 20 z (congrArg vB m) (WL.gS z z z z (WL.gS z z z z (WL.gS z z z z (WL.gS z z z z (WL.gS z z z z (WL.gS z z z z (WL.gS z z z z (wY (Y.pick (b := true) z z) z ?_))))))))
      exact nl (At.join (σ := Bool) true ⟨some1 h, z⟩ (.cons z (.cons z (.cons z .nil))))
     ·refine WL.ren 20 z (congrArg vB m) (ug z z (wY (ym z) z (ug z z (wY (ym z) z (ug z z ?_)))))
      obtain ⟨p, S, h⟩ := bnd h
      obtain ⟨ao, ai, aj, al, T, U, V, n, E, W⟩ := Sl.at2 a S
      obtain ⟨_, _, rfl, rfl, rfl⟩ := E
      replace n : CellsAt _ _ _ [vs p.Key, vs p.Val] := n
      have F := CAt.imm n W
      refine wY (Y.indexAddr ty25 ty65 z T z U V) z (ug z z (wY (yf fo65_1 z) z (ug z z (wY (yl ty9 z z (F.at_.sub 1 [vs p.Val] z)) z (ug z z (wY (Y.len_s ty9 z) z (ug z z (wY (Y.gtr_i z z) z (wY (Y.pick (b := false) z z) z ?_)))))))))
      exact nl (At.join (σ := Bool) (decide (100 < (p.Val.length : Int))) ⟨some1 h, z⟩ (.cons z (.cons z (.cons z .nil))))
    ·rintro ad _ ⟨rfl, rfl⟩
     replace h := Q
     try dsimp only at h
     refine (show WL _ _ _ _ _ [(0, v0), (3, vi r), (28, vB ad)] _ from ?_)
     refine nl (th ?_)
     rcases cnd h with ⟨o, h⟩ | ⟨o, h⟩
     ·refine WC.condT' z o (sq (rg (wY (ya z) z (nl (th (rt (At.inBlockR (At.thenR (At.loopR ?_)))))))))
      have h := outr1 h d q
      refine At.joinBR (At.inBlockR (At.thenR ?_))
      obtain rfl := some1 h
      have X : Stp [] (Lg.O0 A) w (Lg.O0 A) w := (sr_ _ _ _)
      exact At.res (.inl z) z (.tmp z .nil) ⟨z, (se_ X z z)⟩
     ·refine WC.condF' z o (sk (At.inBlock (th (rg (wY (ym z) z (wY (Y.add_i z z) z ?_))))))
      obtain ⟨ae, Z, h⟩ := lt1 h
      refine WL.yE (ya z) (congrArg vi Z.symm) z (nl ?_)
      exact At.round ae ab (Nat.lt_succ_self _) ⟨next1 h d, z⟩ (.cons z (.cons z .nil))
   ·refine WC.condF' z j (WC.exit (At.thenX (At.loopX ?_)))
    exact At.hitB (σ := Unit) () ⟨brk1 h d, z⟩ .nil
  ·rintro _ _ ⟨rfl, rfl⟩
   replace h := flowK_go q
   refine (show At _ _ _ [] _ from ?_)
   refine At.inBlockHit (th (sq (rg (wY (ya z) z (nl (th (rt ?_)))))))
   obtain rfl := some1 h
   have aa : Stp [] (Lg.O0 A) w (Lg.O0 A) w := (sr_ _ _ _)
   exact At.res (.inl z) z (.tmp z .nil) ⟨z, (se_ aa z z)⟩
theorem c_ref08_Light {A : Nat → Prop} {v0_3 : Value} {v0_5 : Value} {a0 : api_Hist} {w : World} (hs0_3 : Sl Rep.u w A v0_3 a0.Pos.Counts) (hs0_5 : Sl Rep.u w A v0_5 a0.Neg.Counts) {r0 : Bool} (h : ref08_Light a0 = some r0) : Rets Try.prog 36 [ag (hl a0 v0_3 v0_5)] w (fun v w' => v = vB r0 ∧ Ext w w') := by
 unfold ref08_Light at h
 refine Rets.enter Try.func36 z z ?_
 have d : Sl Rep.u w (imm (Lg.O0 A)) v0_3 a0.Pos.Counts := (Sl.start hs0_3)
 have j : Sl Rep.u w (imm (Lg.O0 A)) v0_5 a0.Neg.Counts := (Sl.start hs0_5)
 refine (show WC _ _ _ _ [(0, ag (hl a0 v0_3 v0_5))] _ from ?_)
 refine sq (rg ?_)
 have n := h
 obtain ⟨C, D, E, rfl⟩ := d.shape
 have h := n
 have o := h
 obtain ⟨F, G, H, rfl⟩ := j.shape
 have h := o
 refine WL.box (O := (Lg.O0 A)) 11 (hl a0 (vl C D E) (vl F G H)) z z z ?_
 intro J I l a m
 refine wY (ya z) z (nl (th (sq (rg (wY (yf fo31_2 z) z (wY (yf fo29_1 z) z (wY (yl ty27 z z (m.cell 3 _ z)) z ?_)))))))
 have p := d.i a z z
 refine wY (Y.len ty27 z p) z (wY (Y.leq_i z z) z (wY (ym z) z ?_))
 refine WL.cut 6 (σ := Unit) (fun _ w' => l = w') (fun _ => [(14, vB ((decide ((a0.Pos.Counts.length : Int) ≤ 300)) && (decide ((a0.Neg.Counts.length : Int) ≤ 300))))]) ?_ ?_
 ·refine WL.part 8 z (fun c => ?_) (fun c => ?_)
  ·refine ug z z (wY (yf fo31_3 z) z (ug z z (wY (yf fo29_1 z) z (ug z z (wY (yl ty27 z z (m.cell 5 _ z)) z (ug z z ?_))))))
   have q := j.i a z z
   refine wY (Y.len ty27 z q) z (ug z z (wY (Y.leq_i z z) z (wY (Y.pick (b := true) z z) z (WL.ren (v' := vB ((decide ((a0.Pos.Counts.length : Int) ≤ 300)) && (decide ((a0.Neg.Counts.length : Int) ≤ 300)))) 14 z (congrArg vB (andT c)) ?_))))
   exact nl (At.join () z (.cons z .nil))
  ·refine WL.gS z z z z (WL.gS z z z z (WL.gS z z z z (WL.gS z z z z (WL.gS z z z z (wY (Y.pick (b := false) z z) z (WL.ren (v' := vB ((decide ((a0.Pos.Counts.length : Int) ≤ 300)) && (decide ((a0.Neg.Counts.length : Int) ≤ 300)))) 14 z (congrArg vB (andF c)) ?_))))))
   exact nl (At.join () z (.cons z .nil))
 ·rintro _ _ rfl
  refine (show WL _ _ _ _ _ [(14, vB ((decide ((a0.Pos.Counts.length : Int) ≤ 300)) && (decide ((a0.Neg.Counts.length : Int) ≤ 300))))] _ from ?_)
  obtain ⟨K, r, h⟩ := lt1 h
  refine WL.yE (ya z) (congrArg vB r.symm) z (nl (th (rt ?_)))
  obtain rfl := some1 h
  have t : Stp [] (Lg.O0 A) w I l := (su_ a z)
  exact At.res (.inl z) z (.tmp z .nil) ⟨z, (se_ t z z)⟩
theorem c_ref12_Light {A : Nat → Prop} {v0_1 : Value} {v0_13 : Value} {v0_15 : Value} {a0 : api_Point} {w : World} (hs0_1 : Sl rep_api_Pair w A v0_1 a0.Attrs) (hs0_13 : Sl Rep.u w A v0_13 a0.Hist.Pos.Counts) (hs0_15 : Sl Rep.u w A v0_15 a0.Hist.Neg.Counts) {r0 : Bool} (h : ref12_Light a0 = some r0) : Rets Try.prog 18 [ag (cp a0 v0_1 v0_13 v0_15)] w (fun v w' => v = vB r0 ∧ Ext w w') := by
 unfold ref12_Light at h
 refine Rets.enter Try.func18 z z ?_
 have n : Sl rep_api_Pair w (imm (Lg.O0 A)) v0_1 a0.Attrs := (Sl.start hs0_1)
 have o : Sl Rep.u w (imm (Lg.O0 A)) v0_13 a0.Hist.Pos.Counts := (Sl.start hs0_13)
 have p : Sl Rep.u w (imm (Lg.O0 A)) v0_15 a0.Hist.Neg.Counts := (Sl.start hs0_15)
 refine (show WC _ _ _ _ [(0, ag (cp a0 v0_1 v0_13 v0_15))] _ from ?_)
 refine sq (rg ?_)
 have P := h
 obtain ⟨J, K, L, rfl⟩ := n.shape
 have h := P
 have Q := h
 obtain ⟨q, r, t, rfl⟩ := o.shape
 have h := Q
 have S := h
 obtain ⟨C, D, E, rfl⟩ := p.shape
 have h := S
 refine WL.box (O := (Lg.O0 A)) 11 (cp a0 (vl J K L) (vl q r t) (vl C D E)) z z z ?_
 intro M F T c d
 refine wY (ya z) z (nl (th (sq (rg (wY (yf fo33_0 z) z (wY (yl ty9 z z (d.cell 0 _ z)) z (wY (Y.len_s ty9 z) z (wY (Y.leq_i z z) z (wY (ym z) z ?_)))))))))
 obtain ⟨al, h, U⟩ := bnd h
 refine WL.cut 4 (σ := (Bool × Own)) (fun x w' => x.1 = al ∧ Stp [] F T x.2 w') (fun x => [(1, pt M 0), (11, vB x.1)]) ?_ ?_
 ·rcases cnd h with ⟨j, h⟩ | ⟨j, h⟩
  ·refine WL.ren 7 z (congrArg vB j) (ug z z (wY (yf fo33_1 z) z (ug z z (wY (yl ty25 z z (d.cell 1 _ z)) z (ug z z ?_)))))
   have V := n.i c z z
   obtain ⟨am, W, h⟩ := bnd h
   refine WL.call (vals := [(vl J K L)]) kok35 z z (c_ref11_Light (A := fun _ => True) (Sl.all V) W) ?_
   rintro aC aD ⟨rfl, X⟩
   obtain ⟨an, ao, ap, H⟩ := adoptE F (fun k => 1) X
   refine wY (Y.pick (b := true) z z) z ?_
   exact nl (At.join (σ := (Bool × Own)) (am, an) ⟨some1 h, (su_ H z)⟩ (.cons z (.cons z .nil)))
  ·refine WL.ren 7 z (congrArg vB j) (WL.gS z z z z (WL.gS z z z z (WL.gS z z z z (wY (Y.pick (b := false) z z) z ?_))))
   exact nl (At.join (σ := (Bool × Own)) (false, F) ⟨some1 h, (sr_ _ _ _)⟩ (.cons z (.cons z .nil)))
 ·rintro ⟨aq, G⟩ Z ⟨rfl, a⟩
  replace h := U
  try dsimp only at h a
  refine (show WL _ _ _ _ _ [(1, pt M 0), (11, vB aq)] _ from ?_)
  refine wY (ym z) z ?_
  obtain ⟨ar, h, aa⟩ := bnd h
  refine WL.cut 4 (σ := (Bool × Own)) (fun x w' => x.1 = ar ∧ Stp [] G Z x.2 w') (fun x => [(16, vB x.1)]) ?_ ?_
  ·rcases cnd h with ⟨l, h⟩ | ⟨l, h⟩
   ·refine WL.ren 12 z (congrArg vB l) (ug z z (wY (yf fo33_10 z) z (ug z z ?_)))
    have ab := d.st a z
    refine wY (yL ty31 z z (ab.cells 10 (hl a0.Hist (vl q r t) (vl C D E)) z) z) z (ug z z ?_)
    have ad := (o.i c z z).i a z z
    have af := (p.i c z z).i a z z
    obtain ⟨au, ah, h⟩ := bnd h
    refine WL.call (vals := [ag (hl a0.Hist (vl q r t) (vl C D E))]) kok36 z z (c_ref08_Light (A := fun _ => True) (a0 := a0.Hist) (Sl.all ad) (Sl.all af) ah) ?_
    rintro aE aF ⟨rfl, ai⟩
    obtain ⟨av, ax, ay, I⟩ := adoptE G (fun k => 1) ai
    refine wY (Y.pick (b := true) z z) z ?_
    exact nl (At.join (σ := (Bool × Own)) (au, av) ⟨some1 h, (su_ I z)⟩ (.cons z .nil))
   ·refine WL.ren 12 z (congrArg vB l) (WL.gS z z z z (WL.gS z z z z (WL.gS z z z z (wY (Y.pick (b := false) z z) z ?_))))
    exact nl (At.join (σ := (Bool × Own)) (false, G) ⟨some1 h, (sr_ _ _ _)⟩ (.cons z .nil))
  ·rintro ⟨az, aA⟩ aj ⟨rfl, m⟩
   replace h := aa
   try dsimp only at h m
   refine (show WL _ _ _ _ _ [(16, vB az)] _ from ?_)
   refine wY (ya z) z (nl (th (rt ?_)))
   obtain rfl := some1 h
   have ak : Stp [] (Lg.O0 A) w aA aj := (tr_ (su_ c z) (tr_ (su_ a z) (su_ m z)))
   exact At.res (.inl z) z (.tmp z .nil) ⟨z, (se_ ak z z)⟩
theorem c_ref12_Some {A : Nat → Prop} {a0 : List api_Point} {v0 : Value} {a1 : Int} {w : World} (hs0 : Sl rep_api_Point w A v0 a0) {r0 : Bool} (h : ref12_Some a0 a1 = some r0) : Rets Try.prog 7 [v0, vi a1] w (fun v w' => v = vB r0 ∧ Ext w w') := by
 unfold ref12_Some at h
 refine Rets.enter Try.func7 z z ?_
 have o : Sl rep_api_Point w (imm (Lg.O0 A)) v0 a0 := (Sl.start hs0)
 refine (show WC _ _ _ _ [(0, v0), (1, vi a1)] _ from ?_)
 refine sq (rg (wY (ya z) z (nl (th (sq (sq (rg (wY (ym z) z (wY (Y.len ty22 z o) z ?_)))))))))
 refine wY (ym z) z (wY (Y.gtr_i z z) z (nl (th ?_)))
 rcases cnd h with ⟨c, h⟩ | ⟨c, h⟩
 ·refine WC.condT' z c (sq (rg (wY (ya z) z (nl (th (rt (At.thenR ?_)))))))
  obtain rfl := some1 h
  have L : Stp [] (Lg.O0 A) w (Lg.O0 A) w := (sr_ _ _ _)
  exact At.res (.inl z) z (.tmp z .nil) ⟨z, (se_ L z z)⟩
 ·refine WC.condF' z c (sk (th (sq (sq (rg (wY (ya z) z (nl (th (WC.block ?_)))))))))
  obtain ⟨E, h, p⟩ := flow1 h
  obtain ⟨F, h⟩ := loop_some h
  refine WC.joinB 0 (σ := Own) (fun x w' => E = .go () ∧ Stp [] (Lg.O0 A) w x w') (fun x => []) ?_ ?_
  ·refine WC.loop (σ := (Int × Own)) (fun x k w' => loopN k (ref12_Some_lp1 a0) x.1 = some E ∧ Stp [] (Lg.O0 A) w x.2 w') (fun x => [(0, v0), (5, vi x.1)]) (0, (Lg.O0 A)) F (.cons z (.cons z .nil)) ⟨h, (sr_ _ _ _)⟩ ?_
   rintro ⟨af, G⟩ F ao ⟨h, a⟩
   obtain ⟨ah, ar, rfl, h, d⟩ := rnd1 h
   unfold ref12_Some_lp1 at h
   try dsimp only at h a
   refine (show WC _ _ _ _ [(0, v0), (5, vi af)] _ from ?_)
   refine sq (sq (rg (wY (ym z) z (wY (ym z) z ?_))))
   have q := o.i a z z
   refine wY (Y.len ty22 z q) z (wY (Y.lss_i z z) z (nl (th ?_)))
   rcases cnd h with ⟨j, h⟩ | ⟨j, h⟩
   ·refine WC.condT' z j (sk (th (sq (WC.block (sq (rg (wY (ym z) z (wY (ym z) z ?_))))))))
    obtain ⟨r, M, h⟩ := bnd h
    obtain ⟨au, am, an, ap, P, Q, S, l, t, T⟩ := Sl.at2 q M
    obtain ⟨_, _, rfl, rfl, ⟨_, _, rfl, ⟨H, rfl, U⟩, ⟨_, _, rfl, rfl, ⟨_, _, rfl, rfl, ⟨_, _, rfl, rfl, ⟨_, _, rfl, rfl, ⟨_, _, rfl, rfl, ⟨_, _, rfl, rfl, ⟨_, _, rfl, rfl, ⟨_, _, rfl, rfl, ⟨_, _, rfl, ⟨_, _, rfl, rfl, ⟨_, _, rfl, rfl, ⟨_, _, rfl, ⟨_, _, rfl, rfl, ⟨I, rfl, V⟩⟩, ⟨_, _, rfl, rfl, ⟨J, rfl, W⟩⟩⟩⟩⟩, rfl⟩⟩⟩⟩⟩⟩⟩⟩⟩⟩⟩ := t
    replace l : CellsAt _ _ _ (cp r H I J) := l
    have C := CAt.imm l T
    refine wY (Y.indexAddr ty22 ty33 z P z Q S) z (wY (yL ty33 z z C.at_ z) z ?_)
    obtain ⟨av, X, h⟩ := bnd h
    refine WL.call (vals := [ag (cp r H I J)]) kok18 z z (c_ref12_Light (A := fun _ => True) (a0 := r) (Sl.all U) (Sl.all V) (Sl.all W) X) ?_
    rintro aq Z ⟨rfl, aa⟩
    obtain ⟨K, ai, aj, n⟩ := adoptE G (fun k => 1) aa
    refine wY (Y.not z) z (nl (th ?_))
    rcases cnd h with ⟨m, h⟩ | ⟨m, h⟩
    ·refine WC.condT' z m (sq (rg (wY (ya z) z (nl (th (rt (At.inBlockR (At.thenR (At.loopR ?_)))))))))
     have h := outr1 h d p
     refine At.joinBR (At.inBlockR (At.thenR ?_))
     obtain rfl := some1 h
     have ab : Stp [] (Lg.O0 A) w K Z := (tr_ (su_ a z) (su_ n z))
     exact At.res (.inl z) z (.tmp z .nil) ⟨z, (se_ ab z z)⟩
    ·refine WC.condF' z m (sk (At.inBlock (th (rg (wY (ym z) z (wY (Y.add_i z z) z ?_))))))
     obtain ⟨ak, ac, h⟩ := lt1 h
     refine WL.yE (ya z) (congrArg vi ac.symm) z (nl ?_)
     exact At.round (ak, K) ah (Nat.lt_succ_self _) ⟨next1 h d, (tr_ (su_ a z) (su_ n z))⟩ (.cons z (.cons z .nil))
   ·refine WC.condF' z j (WC.exit (At.thenX (At.loopX ?_)))
    exact At.hitB (σ := Own) G ⟨brk1 h d, (su_ a z)⟩ .nil
  ·rintro al ad ⟨rfl, D⟩
   replace h := flowK_go p
   refine (show At _ _ _ [] _ from ?_)
   refine At.inBlockHit (th (sq (rg (wY (ya z) z (nl (th (rt ?_)))))))
   obtain rfl := some1 h
   have ae : Stp [] (Lg.O0 A) w al ad := (su_ D z)
   exact At.res (.inl z) z (.tmp z .nil) ⟨z, (se_ ae z z)⟩
theorem c_ref15_Wide {a0 : Int} {a1 : Int} {a2 : Bool} {w : World} {r0 : Bool} (h : ref15_Wide a0 a1 a2 = some r0) : Rets Try.prog 10 [vi a0, vi a1, vB a2] w (fun v w' => v = vB r0 ∧ Ext w w') := by
 unfold ref15_Wide at h
 refine Rets.enter Try.func10 z z ?_
 refine (show WC _ _ _ _ [(0, vi a0), (1, vi a1), (2, vB a2)] _ from ?_)
 refine sq (rg (wY (ya z) z (nl (th (sq (rg (wY (ym z) z (wY (Y.quo_i (by decide) z z) z (wY (ym z) z ?_)))))))))
 refine wY (Y.rem_i (by decide) z z) z ?_
 obtain ⟨H, Q, h⟩ := lt1 h
 refine WL.yE (ya z) (congrArg vi Q.symm) z ?_
 obtain ⟨S, T, h⟩ := lt1 h
 refine WL.yE (ya z) (congrArg vi T.symm) z (nl (th (sq (rg (wY (ym z) z (wY (Y.quo_i (by decide) z z) z (wY (ym z) z (wY (Y.rem_i (by decide) z z) z ?_))))))))
 obtain ⟨ai, U, h⟩ := lt1 h
 refine WL.yE (ya z) (congrArg vi U.symm) z ?_
 obtain ⟨aj, V, h⟩ := lt1 h
 refine WL.yE (ya z) (congrArg vi V.symm) z (nl (th (sq ?_)))
 obtain ⟨ak, h, W⟩ := bnd h
 refine WC.join (σ := (Int × Int)) (fun x w' => (x.1, x.2) = ak ∧ w = w') (fun x => [(7, vi H), (8, vi S), (9, vi x.1), (10, vi x.2)]) ?_ ?_
 ·refine sq (rg (wY (ym z) z (nl (th ?_))))
  rcases cnd h with ⟨l, h⟩ | ⟨l, h⟩
  ·refine WC.condT' z l (sq (rg (wY (ym z) z (wY (Y.sub_i z z) z ?_))))
   obtain ⟨al, X, h⟩ := lt1 h
   refine WL.yE (ya z) (congrArg vi X.symm) z (nl (th (rg (wY (ym z) z (wY (Y.sub_i z z) z ?_)))))
   obtain ⟨am, Z, h⟩ := lt1 h
   refine WL.yE (ya z) (congrArg vi Z.symm) z (nl ?_)
   exact At.join (σ := (Int × Int)) (al, am) ⟨some1 h, z⟩ (.cons z (.cons z (.cons z (.cons z .nil))))
  ·refine WC.condF' z l (sk ?_)
   exact At.join (σ := (Int × Int)) (ai, aj) ⟨some1 h, z⟩ (.cons z (.cons z (.cons z (.cons z .nil))))
 ·rintro ⟨an, ao⟩ _ ⟨rfl, rfl⟩
  replace h := W
  try dsimp only at h
  refine (show At _ _ _ [(7, vi H), (8, vi S), (9, vi an), (10, vi ao)] _ from ?_)
  refine th (sq (rg (wY (ym z) z (wY (ym z) z (wY (Y.add_i z z) z ?_)))))
  obtain ⟨I, t, h⟩ := lt1 h
  refine WL.yE (ya z) (congrArg vi t.symm) z (nl (th (sq (rg (wY (ym z) z (wY (ym z) z (wY (Y.add_i z z) z ?_)))))))
  obtain ⟨J, C, h⟩ := lt1 h
  refine WL.yE (ya z) (congrArg vi C.symm) z (nl (th (sq ?_)))
  obtain ⟨ap, h, aa⟩ := bnd h
  refine WC.join (σ := (Int × Int)) (fun x w' => (x.1, x.2) = ap ∧ w = w') (fun x => [(11, vi x.1), (12, vi x.2)]) ?_ ?_
  ·refine sq (rg (wY (ym z) z (wY (Y.gtr_i z z) z (nl (th ?_)))))
   rcases cnd h with ⟨m, h⟩ | ⟨m, h⟩
   ·refine WC.condT' z m (sq (rg (wY (ym z) z (wY (Y.add_i z z) z ?_))))
    obtain ⟨K, D, h⟩ := lt1 h
    refine WL.yE (ya z) (congrArg vi D.symm) z (nl (th (rg (wY (ym z) z (wY (Y.sub_i z z) z ?_)))))
    obtain ⟨L, E, h⟩ := lt1 h
    refine WL.yE (ya z) (congrArg vi E.symm) z (nl ?_)
    exact At.join (σ := (Int × Int)) (K, L) ⟨some1 h, z⟩ (.cons z (.cons z .nil))
   ·refine WC.condF' z m (sk ?_)
    exact At.join (σ := (Int × Int)) (I, J) ⟨some1 h, z⟩ (.cons z (.cons z .nil))
  ·rintro ⟨d, j⟩ _ ⟨rfl, rfl⟩
   replace h := aa
   try dsimp only at h
   refine (show At _ _ _ [(11, vi d), (12, vi j)] _ from ?_)
   refine th (sq ?_)
   obtain ⟨aq, h, ab⟩ := bnd h
   refine WC.join (σ := (Int × Int)) (fun x w' => (x.1, x.2) = aq ∧ w = w') (fun x => [(11, vi x.1), (12, vi x.2)]) ?_ ?_
   ·refine sq (rg (wY (ym z) z (wY (Y.lss_i z z) z (nl (th ?_)))))
    rcases cnd h with ⟨n, h⟩ | ⟨n, h⟩
    ·refine WC.condT' z n (sq (rg (wY (ym z) z (wY (Y.sub_i z z) z ?_))))
     obtain ⟨M, F, h⟩ := lt1 h
     refine WL.yE (ya z) (congrArg vi F.symm) z (nl (th (rg (wY (ym z) z (wY (Y.add_i z z) z ?_)))))
     obtain ⟨P, G, h⟩ := lt1 h
     refine WL.yE (ya z) (congrArg vi G.symm) z (nl ?_)
     exact At.join (σ := (Int × Int)) (M, P) ⟨some1 h, z⟩ (.cons z (.cons z .nil))
    ·refine WC.condF' z n (sk ?_)
     exact At.join (σ := (Int × Int)) (d, j) ⟨some1 h, z⟩ (.cons z (.cons z .nil))
   ·rintro ⟨a, c⟩ _ ⟨rfl, rfl⟩
    replace h := ab
    try dsimp only at h
    refine (show At _ _ _ [(11, vi a), (12, vi c)] _ from ?_)
    refine th (sq (sq (rg (wY (ym z) z (wY (Y.gtr_i z z) z (wY (ym z) z ?_))))))
    refine WL.cut 3 (σ := Unit) (fun _ w' => w = w') (fun _ => [(11, vi a), (12, vi c), (49, vB ((decide (4611686018427387904 < a)) || (decide (a < (-4611686018427387904)))))]) ?_ ?_
    ·refine WL.part 46 z (fun o => ?_) (fun o => ?_)
     ·refine WL.gS z z z z (WL.gS z z z z (wY (Y.pick (b := true) z z) z (WL.ren (v' := vB ((decide (4611686018427387904 < a)) || (decide (a < (-4611686018427387904))))) 49 z (congrArg vB (orT o)) ?_)))
      exact nl (At.join () z (.cons z (.cons z (.cons z .nil))))
     ·refine ug z z (wY (ym z) z (ug z z (wY (Y.lss_i z z) z (wY (Y.pick (b := false) z z) z (WL.ren (v' := vB ((decide (4611686018427387904 < a)) || (decide (a < (-4611686018427387904))))) 49 z (congrArg vB (orF o)) ?_)))))
      exact nl (At.join () z (.cons z (.cons z (.cons z .nil))))
    ·rintro _ _ rfl
     refine (show WL _ _ _ _ _ [(11, vi a), (12, vi c), (49, vB ((decide (4611686018427387904 < a)) || (decide (a < (-4611686018427387904)))))] _ from ?_)
     refine nl (th ?_)
     rcases cnd h with ⟨p, h⟩ | ⟨p, h⟩
     ·refine WC.condT' z p (sq (rg (wY (ya z) z (nl (th (rt (At.thenR ?_)))))))
      obtain rfl := some1 h
      have ac : Stp [] (Lg.O0 (fun _ => False)) w (Lg.O0 (fun _ => False)) w := (sr_ _ _ _)
      exact At.res (.inl z) z (.tmp z .nil) ⟨z, (se_ ac z z)⟩
     ·refine WC.condF' z p (sk (th (sq (sq (rg (wY (ym z) z (wY (Y.eql_i z z) z (nl (th ?_)))))))))
      rcases cnd h with ⟨q, h⟩ | ⟨q, h⟩
      ·refine WC.condT' z q (sq (rg (wY (ym z) z (wY (Y.geq_i z z) z ?_))))
       obtain ⟨ar, ad, h⟩ := lt1 h
       refine WL.yE (ya z) (congrArg vB ad.symm) z (nl (th (rt (At.thenR ?_))))
       obtain rfl := some1 h
       have ae : Stp [] (Lg.O0 (fun _ => False)) w (Lg.O0 (fun _ => False)) w := (sr_ _ _ _)
       exact At.res (.inl z) z (.tmp z .nil) ⟨z, (se_ ae z z)⟩
      ·refine WC.condF' z q (sk (th (sq (rg (wY (ym z) z (wY (Y.eql_i z z) z (wY (ym z) z ?_)))))))
       refine WL.cut 3 (σ := Unit) (fun _ w' => w = w') (fun _ => [(59, vB ((decide (a = (-4611686018427387904))) && (decide (c < 0))))]) ?_ ?_
       ·refine WL.part 56 z (fun r => ?_) (fun r => ?_)
        ·refine ug z z (wY (ym z) z (ug z z (wY (Y.lss_i z z) z (wY (Y.pick (b := true) z z) z (WL.ren (v' := vB ((decide (a = (-4611686018427387904))) && (decide (c < 0)))) 59 z (congrArg vB (andT r)) ?_)))))
         exact nl (At.join () z (.cons z .nil))
        ·refine WL.gS z z z z (WL.gS z z z z (wY (Y.pick (b := false) z z) z (WL.ren (v' := vB ((decide (a = (-4611686018427387904))) && (decide (c < 0)))) 59 z (congrArg vB (andF r)) ?_)))
         exact nl (At.join () z (.cons z .nil))
       ·rintro _ _ rfl
        refine (show WL _ _ _ _ _ [(59, vB ((decide (a = (-4611686018427387904))) && (decide (c < 0))))] _ from ?_)
        obtain ⟨au, af, h⟩ := lt1 h
        refine WL.yE (ya z) (congrArg vB af.symm) z (nl (th (rt ?_)))
        obtain rfl := some1 h
        have ah : Stp [] (Lg.O0 (fun _ => False)) w (Lg.O0 (fun _ => False)) w := (sr_ _ _ _)
        exact At.res (.inl z) z (.tmp z .nil) ⟨z, (se_ ah z z)⟩
theorem c_fold_Sum {A : Nat → Prop} {a0 : List api_Hist} {v0 : Value} {w : World} (hs0 : Sl rep_api_Hist w A v0 a0) {r0 : api_Hist} {r1 : Int} (h : fold_Sum a0 = some (r0, r1)) : Rets Try.prog 12 [v0] w (fun v w' => ∃ (T : Value) (U : Value), v = Value.tuple (List.toArray [ag (hl r0 T U), vi r1]) ∧ Ext w w' ∧ RowF Rep.u 26 w w' T r0.Pos.Counts ∧ RowF Rep.u 26 w w' U r0.Neg.Counts ∧ (∀ k, ob T = some k → ob U ≠ some k)) := by
 unfold fold_Sum at h
 refine Rets.enter Try.func12 z z ?_
 have bT : Sl rep_api_Hist w (imm (Lg.O0 A)) v0 a0 := (Sl.start hs0)
 refine (show WC _ _ _ _ [(0, v0)] _ from ?_)
 refine sq (rg (WL.alloc (O := (Lg.O0 A)) 11 hzr ty31 z z ?_))
 intro an ci cw G aM
 refine wY (ya z) z (nl (th (sq (rg (wY (yb (vals := [(0, vi 20)]) (cells := [vi 20, vu 0, vi 0, sn, vi 0, sn]) (fe_ z) (by kernel_rfl)) z (WL.alloc (O := ci) 12 hzr ty31 z z ?_))))))
 intro D aN cx m bU
 refine WL.store (v := ag [vi 20, vu 0, vi 0, sn, vi 0, sn]) (cells' := [vi 20, vu 0, vi 0, sn, vi 0, sn]) ty31 z z bU z (le_ z) z z ?_
 intro aO n bW
 refine nl (th (sq (sq (rg (wY (ym z) z ?_)))))
 have aP := ((bT.i G z z).i m z z).i n z z
 refine wY (Y.len ty40 z aP) z (wY (ym z) z (nl (th (WC.block ?_))))
 obtain ⟨bO, h, aQ⟩ := flow1 h
 obtain ⟨bP, h⟩ := loop_some h
 refine WC.joinB 0 (σ := (Int × UInt64 × Int × List UInt64 × Int × List UInt64 × Own × Value × Value)) (fun x w' => bO = .go (x.1, x.2.1, x.2.2.1, x.2.2.2.1, x.2.2.2.2.1, x.2.2.2.2.2.1) ∧ Stp [12, 13, 14, 15, 1001, 1002] aN aO x.2.2.2.2.2.2.1 w' ∧ OwnSl 1003 Rep.u 26 x.2.2.2.2.2.2.1 w' x.2.2.2.2.2.2.2.1 x.2.2.2.1 ∧ OwnSl 1004 Rep.u 26 x.2.2.2.2.2.2.1 w' x.2.2.2.2.2.2.2.2 x.2.2.2.2.2.1 ∧ Blk 12 x.2.2.2.2.2.2.1 w' D 31 [vi x.1, vu x.2.1, vi x.2.2.1, x.2.2.2.2.2.2.2.1, vi x.2.2.2.2.1, x.2.2.2.2.2.2.2.2]) (fun x => [(2, pt an 0), (4, pt D 0)]) ?_ ?_
 ·refine WC.loop (σ := (Int × UInt64 × Int × List UInt64 × Int × List UInt64 × Int × Own × Value × Value)) (fun x k w' => loopN k (fold_Sum_lp1 a0) (x.1, x.2.1, x.2.2.1, x.2.2.2.1, x.2.2.2.2.1, x.2.2.2.2.2.1, x.2.2.2.2.2.2.1) = some bO ∧ Stp [12, 13, 14, 15] aN aO x.2.2.2.2.2.2.2.1 w' ∧ OwnSl 1001 Rep.u 26 x.2.2.2.2.2.2.2.1 w' x.2.2.2.2.2.2.2.2.1 x.2.2.2.1 ∧ OwnSl 1002 Rep.u 26 x.2.2.2.2.2.2.2.1 w' x.2.2.2.2.2.2.2.2.2 x.2.2.2.2.2.1 ∧ Blk 12 x.2.2.2.2.2.2.2.1 w' D 31 [vi x.1, vu x.2.1, vi x.2.2.1, x.2.2.2.2.2.2.2.2.1, vi x.2.2.2.2.1, x.2.2.2.2.2.2.2.2.2]) (fun x => [(2, pt an 0), (4, pt D 0), (9, v0), (10, vi (a0.length : Int)), (11, vi x.2.2.2.2.2.2.1)]) (20, 0, 0, [], 0, [], 0, aN, sn, sn) bP (.cons z (.cons z (.cons z (.cons z (.cons z .nil))))) ⟨h, (sr_ _ _ _), (OwnSl.nil 1001 Rep.u 26), (OwnSl.nil 1002 Rep.u 26), bW⟩ ?_
  rintro ⟨ao, ap, aq, bQ, ar, bR, bS, cj, aR, aS⟩ bP cy ⟨h, l, V, W, X⟩
  obtain ⟨ck, cH, rfl, h, Z⟩ := rnd1 h
  unfold fold_Sum_lp1 at h
  try dsimp only at h l V W X
  refine (show WC _ _ _ _ [(2, pt an 0), (4, pt D 0), (9, v0), (10, vi (a0.length : Int)), (11, vi bS)] _ from ?_)
  refine sq (rg (wY (Y.lss_i z z) z (nl (th (sq ?_)))))
  rcases cnd h with ⟨aa, h⟩ | ⟨aa, h⟩
  ·refine WC.condT' z aa (sk (th (sq (WC.block (sq (rg ?_))))))
   obtain ⟨E, bZ, h⟩ := bnd h
   have b0 := aP.i l z z
   obtain ⟨cI, cs, ct, cz, b1, b2, b3, ab, aZ, b4⟩ := Sl.at2 b0 bZ
   obtain ⟨_, _, rfl, rfl, ⟨_, _, rfl, rfl, ⟨_, _, rfl, ⟨_, _, rfl, rfl, ⟨cl, rfl, b5⟩⟩, ⟨_, _, rfl, rfl, ⟨cm, rfl, b6⟩⟩⟩⟩⟩ := aZ
   replace ab : CellsAt _ _ _ (hl E cl cm) := ab
   have a2 := CAt.imm ab b4
   refine wY (Y.indexAddr ty40 ty31 z b1 z b2 b3) z (wY (yL ty31 z z a2.at_ z) z (WL.alloc (O := cj) 13 hzr ty31 z z ?_))
   intro cJ cn cA a b7
   have aT := b5.i a z z
   have b8 := h
   obtain ⟨au, av, ax, rfl⟩ := aT.shape
   have h := b8
   have aU := b6.i a z z
   have b9 := h
   obtain ⟨ay, az, aA, rfl⟩ := aU.shape
   have h := b9
   refine WL.store (v := ag (hl E (vl au av ax) (vl ay az aA))) (cells' := (hl E (vl au av ax) (vl ay az aA))) ty31 z z b7 z (le_ z) z z ?_
   intro cC c ca
   refine nl (th (sq (rg (wY (ya z) z (nl (th (sq (rg ?_))))))))
   have aC := (X.st a z).st c z
   refine wY (yL ty31 z z (aC.cells 0 [vi ao, vu ap, vi aq, aR, vi ar, aS] z) z) z (wY (yL ty31 z z (ca.cells 0 (hl E (vl au av ax) (vl ay az aA)) z) z) z ?_)
   have a4 := (V.st a z z z).st c z z z
   have a6 := (W.st a z z z).st c z z z
   have a7 := aT.i c z z
   have a8 := aU.i c z z
   obtain ⟨⟨d, cD⟩, a9, h⟩ := bnd h
   refine WL.call (vals := [ag [vi ao, vu ap, vi aq, aR, vi ar, aS], ag (hl E (vl au av ax) (vl ay az aA))]) kok26 z z (c_fold_Merge (A := fun _ => True) (a0 := (api_Hist.mk ao ap (api_Side.mk aq bQ) (api_Side.mk ar bR))) (a1 := E) (a4.src.sl) (a6.src.sl) (Sl.all a7) (Sl.all a8) a9) ?_
   rintro cu aD ⟨ac, aW, rfl, ba, cc, cd, ce⟩
   obtain ⟨ad, ch, F, o⟩ := adoptE cn (fun k => if ob ac = some k then 14 else if ob aW = some k then 15 else 1) ba
   have aE : OwnSl 14 Rep.u 26 ad aD ac d.Pos.Counts := RowF.adopt 14 Flat.u cc F (fun k hk => if_pos hk)
   have aF : OwnSl 15 Rep.u 26 ad aD aW d.Neg.Counts := RowF.adopt 15 Flat.u cd F (fun k hk => (if_neg (fun (e : ob ac = some k) => ce k e hk)).trans (if_pos hk))
   refine wY (ym z) z (wY (yx z z) z (wY (yx z z) z ?_))
   have bb := h
   obtain ⟨ae, af, ah, rfl⟩ := aE.shape
   have h := bb
   have bc := h
   obtain ⟨ai, aj, ak, rfl⟩ := aF.shape
   have h := bc
   have bd := aC.st o z
   refine WL.store (v := ag (hl d (vl ae af ah) (vl ai aj ak))) (cells' := (hl d (vl ae af ah) (vl ai aj ak))) ty31 z z bd z (le_ z) z z ?_
   intro cv j bf
   refine wY (ya z) z (nl (th (sq (rg (wY (ym z) z (wY (Y.neq_i z z) z (nl (th ?_))))))))
   rcases cnd h with ⟨H, h⟩ | ⟨H, h⟩
   ·refine WC.condT' z H (sq (rg (wY (yb (vals := []) (cells := hzr) (fe_ z) (by kernel_rfl)) z (wY (ym z) z ?_))))
    have bm := ((((((aM.st m z).st n z).st l z).st a z).st c z).st o z).st j z
    refine WL.store (v := ag hzr) (cells' := hzr) ty31 z z bm z (le_ z) z z ?_
    intro bn aX bo
    refine wY (ya z) z (nl (th (rt (At.inBlockR (At.thenR (At.loopR ?_))))))
    have h := outr1 h Z aQ
    refine At.joinBR (At.inBlockR (At.thenR ?_))
    obtain ⟨rfl, rfl⟩ := tup2 h
    have bp : Stp [11, 12, 13, 14, 15] (Lg.O0 A) w ad bn := (tr_ (su_ G z) (tr_ (su_ m z) (tr_ (su_ n z) (tr_ (su_ l z) (tr_ (su_ a z) (tr_ (su_ c z) (tr_ (su_ o z) (tr_ (su_ j z) (su_ aX z)))))))))
    exact At.res (.inl z) z (.cell z (bo.runAg 0 hzr ty31 z z z) (.tmp z .nil)) ⟨sn, sn, z, (se_ bp z z), RowF.nil, RowF.nil, (fun _ e => absurd e not_nil)⟩
   ·refine WC.condF' z H (sk (At.inBlock (th (rg (wY (Y.add_i z z) z (wY (ym z) z (nl ?_)))))))
    have bq := aE.st j z z z
    obtain ⟨cE, p, br⟩ := OwnSl.rlb 1001 rfl bq
    have bt := (aF.st j z z z).st p z z z
    obtain ⟨cf, q, bu⟩ := OwnSl.rlb 1002 rfl bt
    have bw := br.st q z z z
    have bz := (bf.st p z).st q z
    exact At.round (d.Scale, d.Zero, d.Pos.Offset, d.Pos.Counts, d.Neg.Offset, d.Neg.Counts, w64 (bS + 1), cf, (vl ae af ah), (vl ai aj ak)) ck (Nat.lt_succ_self _) ⟨next1 h Z, (tr_ (su_ l z) (tr_ (su_ a z) (tr_ (su_ c z) (tr_ (su_ o z) (tr_ (su_ j z) (tr_ (su_ p z) (su_ q z))))))), bw, bu, bz⟩ (.cons z (.cons z (.cons z (.cons z (.cons z .nil)))))
  ·refine WC.condF' z aa (WC.exit (At.thenX (At.loopX ?_)))
   obtain ⟨cF, r, bA⟩ := OwnSl.rlb 1003 rfl V
   have bB := W.st r z z z
   obtain ⟨cg, t, bC⟩ := OwnSl.rlb 1004 rfl bB
   have bD := bA.st t z z z
   have bF := (X.st r z).st t z
   exact At.hitB (σ := (Int × UInt64 × Int × List UInt64 × Int × List UInt64 × Own × Value × Value)) (ao, ap, aq, bQ, ar, bR, cg, aR, aS) ⟨brk1 h Z, (tr_ (su_ l z) (tr_ (su_ r z) (su_ t z))), bD, bC, bF⟩ (.cons z (.cons z .nil))
 ·rintro ⟨aG, aH, aI, cK, aJ, cL, co, cq, cr⟩ cG ⟨rfl, I, al, am, aY⟩
  replace h := flowK_go aQ
  try dsimp only at h I al am aY
  refine (show At _ _ _ [(2, pt an 0), (4, pt D 0)] _ from ?_)
  refine At.inBlockHit (th (sq (rg (wY (yL ty31 z z (aY.cells 0 [vi aG, vu aH, vi aI, cq, vi aJ, cr] z) z) z ?_))))
  have bG := h
  obtain ⟨J, K, L, rfl⟩ := al.shape
  have h := bG
  have bH := h
  obtain ⟨M, P, Q, rfl⟩ := am.shape
  have h := bH
  have bK := ((aM.st m z).st n z).st I z
  refine WL.store (v := ag [vi aG, vu aH, vi aI, (vl J K L), vi aJ, (vl M P Q)]) (cells' := [vi aG, vu aH, vi aI, (vl J K L), vi aJ, (vl M P Q)]) ty31 z z bK z (le_ z) z z ?_
  intro bL C bM
  refine wY (ya z) z (nl (th (rt ?_)))
  obtain ⟨rfl, rfl⟩ := tup2 h
  have S : Stp [11, 12, 13, 14, 15, 1001, 1002] (Lg.O0 A) w co bL := (tr_ (su_ G z) (tr_ (su_ m z) (tr_ (su_ n z) (tr_ (su_ I z) (su_ C z)))))
  have aK := al.st C z z z
  have aL := am.st C z z z
  exact At.res (.inl z) z (.cell z (bM.runAg 0 [vi aG, vu aH, vi aI, (vl J K L), vi aJ, (vl M P Q)] ty31 z z z) (.tmp z .nil)) ⟨(vl J K L), (vl M P Q), z, (se_ S z z), (OwnSl.outF aK S low0 z), (OwnSl.outF aL S low0 z), (ne_own aK aL z)⟩
theorem c_slices_Equal_uint64_uint64 {A : Nat → Prop} {a0 : List UInt64} {v0 : Value} {a1 : List UInt64} {v1 : Value} {w : World} (hs0 : Sl Rep.u w A v0 a0) (hs1 : Sl Rep.u w A v1 a1) {r0 : Bool} (h : slices_Equal_uint64_uint64 a0 a1 = some r0) : Rets Try.prog 59 [v0, v1] w (fun v w' => v = vB r0 ∧ Ext w w') := by
 unfold slices_Equal_uint64_uint64 at h
 refine Rets.enter Try.func59 z z ?_
 have d : Sl Rep.u w (imm (Lg.O0 A)) v0 a0 := (Sl.start hs0)
 have r : Sl Rep.u w (imm (Lg.O0 A)) v1 a1 := (Sl.start hs1)
 refine (show WC _ _ _ _ [(0, v0), (1, v1)] _ from ?_)
 refine sq (rg (wY (ya z) z (nl (th (sq (sq (rg (wY (ym z) z (wY (Y.len ty27 z d) z ?_)))))))))
 refine wY (ym z) z (wY (Y.len ty27 z r) z (wY (Y.neq_i z z) z (nl (th ?_))))
 rcases cnd h with ⟨j, h⟩ | ⟨j, h⟩
 ·refine WC.condT' z j (sq (rg (wY (ya z) z (nl (th (rt (At.thenR ?_)))))))
  obtain rfl := some1 h
  have K : Stp [] (Lg.O0 A) w (Lg.O0 A) w := (sr_ _ _ _)
  exact At.res (.inl z) z (.tmp z .nil) ⟨z, (se_ K z z)⟩
 ·refine WC.condF' z j (sk (th (sq (sq (rg (wY (ym z) z (wY (Y.len ty27 z d) z (wY (ym z) z (nl ?_)))))))))
  refine th (WC.block ?_)
  obtain ⟨H, h, t⟩ := flow1 h
  obtain ⟨I, h⟩ := loop_some h
  refine WC.joinB 0 (σ := Own) (fun x w' => H = .go () ∧ Stp [] (Lg.O0 A) w x w') (fun x => []) ?_ ?_
  ·refine WC.loop (σ := (Int × Own)) (fun x k w' => loopN k (slices_Equal_uint64_uint64_lp1 a0 a1) x.1 = some H ∧ Stp [] (Lg.O0 A) w x.2 w') (fun x => [(0, v0), (1, v1), (12, vi (a0.length : Int)), (13, vi x.1)]) (0, (Lg.O0 A)) I (.cons z (.cons z (.cons z (.cons z .nil)))) ⟨h, (sr_ _ _ _)⟩ ?_
   rintro ⟨J, q⟩ I aq ⟨h, a⟩
   obtain ⟨ai, av, rfl, h, l⟩ := rnd1 h
   unfold slices_Equal_uint64_uint64_lp1 at h
   try dsimp only at h a
   refine (show WC _ _ _ _ [(0, v0), (1, v1), (12, vi (a0.length : Int)), (13, vi J)] _ from ?_)
   refine sq (rg (wY (Y.lss_i z z) z (nl (th (sq ?_)))))
   rcases cnd h with ⟨m, h⟩ | ⟨m, h⟩
   ·refine WC.condT' z m (sk (th (sq (WC.block (sq (rg (wY (ym z) z (wY (ya z) z (nl ?_)))))))))
    refine th (sq (WC.draw 8 q fmix (by kernel_rfl) ?_))
    intro L c
    refine WS.y (ym z) z (WS.y (ym z) z ?_)
    obtain ⟨aj, M, h⟩ := bnd h
    have Q := (d.i a z z).i c z z
    obtain ⟨ax, am, an, ar, S, T, U, n, C, V⟩ := Sl.at2 Q M
    obtain rfl := C
    replace n : CellsAt _ _ _ [vu aj] := n
    have D := CAt.imm n V
    refine WS.y (Y.indexAddr ty27 ty26 z S z T U) z (WS.y (yl ty26 z z D.at_) z (WS.y (ym z) z (WS.y (ym z) z ?_)))
    obtain ⟨ak, W, h⟩ := bnd h
    have Z := (r.i a z z).i c z z
    obtain ⟨ay, ao, ap, au, aa, ab, ac, o, E, ad⟩ := Sl.at2 Z W
    obtain rfl := E
    replace o : CellsAt _ _ _ [vu ak] := o
    have F := CAt.imm o ad
    refine WS.y (Y.indexAddr ty27 ty26 z aa z ab ac) z (WS.y (yl ty26 z z F.at_) z (WS.tail (wY (Y.neq_u z z) z (nl (th ?_)))))
    rcases cnd h with ⟨p, h⟩ | ⟨p, h⟩
    ·refine WC.condT' z p (sq (rg (wY (ya z) z (nl (th (rt (At.inBlockR (At.thenR (At.loopR ?_)))))))))
     have h := outr1 h l t
     refine At.joinBR (At.inBlockR (At.thenR ?_))
     obtain rfl := some1 h
     have ae : Stp [] (Lg.O0 A) w q L := (tr_ (su_ a z) (su_ c z))
     exact At.res (.inl z) z (.tmp z .nil) ⟨z, (se_ ae z z)⟩
    ·refine WC.condF' z p (sk (At.inBlock (th (rg (wY (Y.add_i z z) z (wY (ym z) z (nl ?_)))))))
     exact At.round (w64 (J + 1), q) ai (Nat.lt_succ_self _) ⟨next1 h l, (tr_ (su_ a z) (su_ c z))⟩ (.cons z (.cons z (.cons z (.cons z .nil))))
   ·refine WC.condF' z m (WC.exit (At.thenX (At.loopX ?_)))
    exact At.hitB (σ := Own) q ⟨brk1 h l, (su_ a z)⟩ .nil
  ·rintro al af ⟨rfl, G⟩
   replace h := flowK_go t
   refine (show At _ _ _ [] _ from ?_)
   refine At.inBlockHit (th (sq (rg (wY (ya z) z (nl (th (rt ?_)))))))
   obtain rfl := some1 h
   have ah : Stp [] (Lg.O0 A) w al af := (su_ G z)
   exact At.res (.inl z) z (.tmp z .nil) ⟨z, (se_ ah z z)⟩
theorem c_hist_same {A : Nat → Prop} {v0_1 : Value} {a0 : api_Side} {v1_1 : Value} {a1 : api_Side} {w : World} (hs0_1 : Sl Rep.u w A v0_1 a0.Counts) (hs1_1 : Sl Rep.u w A v1_1 a1.Counts) {r0 : Bool} (h : hist_same a0 a1 = some r0) : Rets Try.prog 27 [ag [vi a0.Offset, v0_1], ag [vi a1.Offset, v1_1]] w (fun v w' => v = vB r0 ∧ Ext w w') := by
 unfold hist_same at h
 refine Rets.enter Try.func27 z z ?_
 have l : Sl Rep.u w (imm (Lg.O0 A)) v0_1 a0.Counts := (Sl.start hs0_1)
 have G : Sl Rep.u w (imm (Lg.O0 A)) v1_1 a1.Counts := (Sl.start hs1_1)
 refine (show WC _ _ _ _ [(0, ag [vi a0.Offset, v0_1]), (1, ag [vi a1.Offset, v1_1])] _ from ?_)
 refine sq (rg ?_)
 have H := h
 obtain ⟨r, t, C, rfl⟩ := l.shape
 have h := H
 refine WL.box (O := (Lg.O0 A)) 11 [vi a0.Offset, (vl r t C)] z z z ?_
 intro aj W af c I
 have m := G.i c z z
 have J := h
 obtain ⟨D, E, F, rfl⟩ := m.shape
 have h := J
 refine WL.box (O := W) 12 [vi a1.Offset, (vl D E F)] z z z ?_
 intro ak n K a o
 refine wY (ya z) z (nl (th (sq (rg (wY (yf fo29_0 z) z ?_)))))
 have p := I.st a z
 refine wY (yl ty3 z z (p.cell 0 _ z)) z (wY (yf fo29_0 z) z (wY (yl ty3 z z (o.cell 0 _ z)) z (wY (Y.eql_i z z) z (wY (ym z) z ?_))))
 obtain ⟨X, h, L⟩ := bnd h
 refine WL.cut 6 (σ := (Bool × Own)) (fun x w' => x.1 = X ∧ Stp [] n K x.2 w') (fun x => [(16, vB x.1)]) ?_ ?_
 ·rcases cnd h with ⟨d, h⟩ | ⟨d, h⟩
  ·refine WL.ren 10 z (congrArg vB d) (ug z z (wY (yf fo29_1 z) z (ug z z (wY (yl ty27 z z (p.cell 1 _ z)) z (ug z z (wY (yf fo29_1 z) z (ug z z (wY (yl ty27 z z (o.cell 1 _ z)) z (ug z z ?_)))))))))
   have P := (l.i c z z).i a z z
   have Q := m.i a z z
   obtain ⟨Z, S, h⟩ := bnd h
   refine WL.call (vals := [(vl r t C), (vl D E F)]) kok59 z z (c_slices_Equal_uint64_uint64 (A := fun _ => True) (Sl.all P) (Sl.all Q) S) ?_
   rintro ah ai ⟨rfl, T⟩
   obtain ⟨aa, ab, ac, q⟩ := adoptE n (fun k => 1) T
   refine wY (Y.pick (b := true) z z) z ?_
   exact nl (At.join (σ := (Bool × Own)) (Z, aa) ⟨some1 h, (su_ q z)⟩ (.cons z .nil))
  ·refine WL.ren 10 z (congrArg vB d) (WL.gS z z z z (WL.gS z z z z (WL.gS z z z z (WL.gS z z z z (WL.gS z z z z (wY (Y.pick (b := false) z z) z ?_))))))
   exact nl (At.join (σ := (Bool × Own)) (false, n) ⟨some1 h, (sr_ _ _ _)⟩ (.cons z .nil))
 ·rintro ⟨ad, ae⟩ U ⟨rfl, j⟩
  replace h := L
  try dsimp only at h j
  refine (show WL _ _ _ _ _ [(16, vB ad)] _ from ?_)
  refine wY (ya z) z (nl (th (rt ?_)))
  obtain rfl := some1 h
  have V : Stp [] (Lg.O0 A) w ae U := (tr_ (su_ c z) (tr_ (su_ a z) (su_ j z)))
  exact At.res (.inl z) z (.tmp z .nil) ⟨z, (se_ V z z)⟩
theorem c_hist_Same {A : Nat → Prop} {v0_3 : Value} {v0_5 : Value} {a0 : api_Hist} {v1_3 : Value} {v1_5 : Value} {a1 : api_Hist} {w : World} (hs0_3 : Sl Rep.u w A v0_3 a0.Pos.Counts) (hs0_5 : Sl Rep.u w A v0_5 a0.Neg.Counts) (hs1_3 : Sl Rep.u w A v1_3 a1.Pos.Counts) (hs1_5 : Sl Rep.u w A v1_5 a1.Neg.Counts) {r0 : Bool} (h : hist_Same a0 a1 = some r0) : Rets Try.prog 13 [ag (hl a0 v0_3 v0_5), ag (hl a1 v1_3 v1_5)] w (fun v w' => v = vB r0 ∧ Ext w w') := by
 unfold hist_Same at h
 refine Rets.enter Try.func13 z z ?_
 have t : Sl Rep.u w (imm (Lg.O0 A)) v0_3 a0.Pos.Counts := (Sl.start hs0_3)
 have C : Sl Rep.u w (imm (Lg.O0 A)) v0_5 a0.Neg.Counts := (Sl.start hs0_5)
 have aa : Sl Rep.u w (imm (Lg.O0 A)) v1_3 a1.Pos.Counts := (Sl.start hs1_3)
 have ab : Sl Rep.u w (imm (Lg.O0 A)) v1_5 a1.Neg.Counts := (Sl.start hs1_5)
 refine (show WC _ _ _ _ [(0, ag (hl a0 v0_3 v0_5)), (1, ag (hl a1 v1_3 v1_5))] _ from ?_)
 refine sq (rg ?_)
 have ac := h
 obtain ⟨D, E, F, rfl⟩ := t.shape
 have h := ac
 have ad := h
 obtain ⟨G, H, I, rfl⟩ := C.shape
 have h := ad
 refine WL.box (O := (Lg.O0 A)) 11 (hl a0 (vl D E F) (vl G H I)) z z z ?_
 intro p aF aS d ae
 have J := aa.i d z z
 have af := h
 obtain ⟨K, L, M, rfl⟩ := J.shape
 have h := af
 have P := ab.i d z z
 have ah := h
 obtain ⟨Q, S, T, rfl⟩ := P.shape
 have h := ah
 refine WL.box (O := aF) 12 (hl a1 (vl K L M) (vl Q S T)) z z z ?_
 intro q U V a j
 refine wY (ya z) z (nl (th (sq (rg (wY (yf fo31_0 z) z ?_)))))
 have l := ae.st a z
 refine wY (yl ty3 z z (l.cell 0 _ z)) z (wY (yf fo31_0 z) z (wY (yl ty3 z z (j.cell 0 _ z)) z (wY (Y.eql_i z z) z (wY (ym z) z ?_))))
 refine WL.cut 6 (σ := Unit) (fun _ w' => V = w') (fun _ => [(2, pt p 0), (3, pt q 0), (16, vB ((decide (a0.Scale = a1.Scale)) && (decide (a0.Zero = a1.Zero))))]) ?_ ?_
 ·refine WL.part 10 z (fun m => ?_) (fun m => ?_)
  ·refine ug z z (wY (yf fo31_1 z) z (ug z z (wY (yl ty26 z z (l.cell 1 _ z)) z (ug z z (wY (yf fo31_1 z) z (ug z z (wY (yl ty26 z z (j.cell 1 _ z)) z (ug z z (wY (Y.eql_u z z) z ?_)))))))))
   refine wY (Y.pick (b := true) z z) z (WL.ren (v' := vB ((decide (a0.Scale = a1.Scale)) && (decide (a0.Zero = a1.Zero)))) 16 z (congrArg vB (andT m)) ?_)
   exact nl (At.join () z (.cons z (.cons z (.cons z .nil))))
  ·refine WL.gS z z z z (WL.gS z z z z (WL.gS z z z z (WL.gS z z z z (WL.gS z z z z (wY (Y.pick (b := false) z z) z (WL.ren (v' := vB ((decide (a0.Scale = a1.Scale)) && (decide (a0.Zero = a1.Zero)))) 16 z (congrArg vB (andF m)) ?_))))))
   exact nl (At.join () z (.cons z (.cons z (.cons z .nil))))
 ·rintro _ _ rfl
  refine (show WL _ _ _ _ _ [(2, pt p 0), (3, pt q 0), (16, vB ((decide (a0.Scale = a1.Scale)) && (decide (a0.Zero = a1.Zero))))] _ from ?_)
  refine wY (ym z) z ?_
  obtain ⟨aG, h, ai⟩ := bnd h
  refine WL.cut 6 (σ := (Bool × Own)) (fun x w' => x.1 = aG ∧ Stp [] U V x.2 w') (fun x => [(2, pt p 0), (3, pt q 0), (23, vB x.1)]) ?_ ?_
  ·rcases cnd h with ⟨n, h⟩ | ⟨n, h⟩
   ·refine WL.ren 17 z (congrArg vB n) (ug z z (wY (yf fo31_2 z) z (ug z z (wY (yL ty29 z z (l.cells 2 [vi a0.Pos.Offset, (vl D E F)] z) z) z (ug z z (wY (yf fo31_2 z) z (ug z z (wY (yL ty29 z z (j.cells 2 [vi a1.Pos.Offset, (vl K L M)] z) z) z (ug z z ?_)))))))))
    have ak := (t.i d z z).i a z z
    have al := J.i a z z
    obtain ⟨aH, am, h⟩ := bnd h
    refine WL.call (vals := [ag [vi a0.Pos.Offset, (vl D E F)], ag [vi a1.Pos.Offset, (vl K L M)]]) kok27 z z (c_hist_same (A := fun _ => True) (a0 := a0.Pos) (a1 := a1.Pos) (Sl.all ak) (Sl.all al) am) ?_
    rintro aT aU ⟨rfl, an⟩
    obtain ⟨aI, aJ, aK, X⟩ := adoptE U (fun k => 1) an
    refine wY (Y.pick (b := true) z z) z ?_
    exact nl (At.join (σ := (Bool × Own)) (aH, aI) ⟨some1 h, (su_ X z)⟩ (.cons z (.cons z (.cons z .nil))))
   ·refine WL.ren 17 z (congrArg vB n) (WL.gS z z z z (WL.gS z z z z (WL.gS z z z z (WL.gS z z z z (WL.gS z z z z (wY (Y.pick (b := false) z z) z ?_))))))
    exact nl (At.join (σ := (Bool × Own)) (false, U) ⟨some1 h, (sr_ _ _ _)⟩ (.cons z (.cons z (.cons z .nil))))
  ·rintro ⟨aL, W⟩ ao ⟨rfl, c⟩
   replace h := ai
   try dsimp only at h c
   refine (show WL _ _ _ _ _ [(2, pt p 0), (3, pt q 0), (23, vB aL)] _ from ?_)
   refine wY (ym z) z ?_
   obtain ⟨aM, h, ap⟩ := bnd h
   refine WL.cut 6 (σ := (Bool × Own)) (fun x w' => x.1 = aM ∧ Stp [] W ao x.2 w') (fun x => [(30, vB x.1)]) ?_ ?_
   ·rcases cnd h with ⟨o, h⟩ | ⟨o, h⟩
    ·refine WL.ren 24 z (congrArg vB o) (ug z z (wY (yf fo31_3 z) z (ug z z ?_)))
     have aq := l.st c z
     refine wY (yL ty29 z z (aq.cells 4 [vi a0.Neg.Offset, (vl G H I)] z) z) z (ug z z (wY (yf fo31_3 z) z (ug z z ?_)))
     have ar := j.st c z
     refine wY (yL ty29 z z (ar.cells 4 [vi a1.Neg.Offset, (vl Q S T)] z) z) z (ug z z ?_)
     have ax := ((C.i d z z).i a z z).i c z z
     have az := (P.i a z z).i c z z
     obtain ⟨aN, aA, h⟩ := bnd h
     refine WL.call (vals := [ag [vi a0.Neg.Offset, (vl G H I)], ag [vi a1.Neg.Offset, (vl Q S T)]]) kok27 z z (c_hist_same (A := fun _ => True) (a0 := a0.Neg) (a1 := a1.Neg) (Sl.all ax) (Sl.all az) aA) ?_
     rintro aW aX ⟨rfl, aC⟩
     obtain ⟨aO, aP, aQ, Z⟩ := adoptE W (fun k => 1) aC
     refine wY (Y.pick (b := true) z z) z ?_
     exact nl (At.join (σ := (Bool × Own)) (aN, aO) ⟨some1 h, (su_ Z z)⟩ (.cons z .nil))
    ·refine WL.ren 24 z (congrArg vB o) (WL.gS z z z z (WL.gS z z z z (WL.gS z z z z (WL.gS z z z z (WL.gS z z z z (wY (Y.pick (b := false) z z) z ?_))))))
     exact nl (At.join (σ := (Bool × Own)) (false, W) ⟨some1 h, (sr_ _ _ _)⟩ (.cons z .nil))
   ·rintro ⟨x64, aR⟩ aD ⟨rfl, r⟩
    replace h := ap
    try dsimp only at h r
    refine (show WL _ _ _ _ _ [(30, vB x64)] _ from ?_)
    refine wY (ya z) z (nl (th (rt ?_)))
    obtain rfl := some1 h
    have aE : Stp [] (Lg.O0 A) w aR aD := (tr_ (su_ d z) (tr_ (su_ a z) (tr_ (su_ c z) (su_ r z))))
    exact At.res (.inl z) z (.tmp z .nil) ⟨z, (se_ aE z z)⟩
end Go.Lg
