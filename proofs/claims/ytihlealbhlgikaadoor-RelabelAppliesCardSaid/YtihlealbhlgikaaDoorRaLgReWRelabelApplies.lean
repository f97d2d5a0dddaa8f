/- The walks of RelabelApplies and of what it calls, printed by gen.py. -/
import Derived.Test.YtihlealbhlgikaaDoorRaLgReWRelabelAppliesx3
set_option linter.unusedVariables false
namespace Go.Lg
open Go Go.Proofs
set_option maxRecDepth 100000
set_option maxHeartbeats 4000000
theorem c_ref11_Sorted {A : Nat → Prop} {a0 : List api_Pair} {v0 : Value} {w : World} (hs0 : Sl rep_api_Pair w A v0 a0) {r0 : List api_Pair} (h : ref11_Sorted a0 = some r0) : Rets Tryd.prog 22 [v0] w (fun v w' => ∃ (u0 : Value), v = u0 ∧ Ext w w' ∧ RowF rep_api_Pair 59 w w' u0 r0) := by
 unfold ref11_Sorted at h
 refine Rets.enter Tryd.func22 z z ?_
 have bn : Sl rep_api_Pair w (imm (Lg.O0 A)) v0 a0 := (Sl.start hs0)
 refine (show WC _ _ _ _ [(0, v0)] _ from ?_)
 refine sq (rg (wY (ya z) z (nl (th (sq (rg (wY (ya z) z (nl (th ?_)))))))))
 refine sq (sq (rg (wY (ya z) z (nl (th (WC.block ?_))))))
 obtain ⟨bg, h, bo⟩ := flow1 h
 obtain ⟨bh, h⟩ := loop_some h
 refine WC.joinB 0 (σ := (List api_Pair × Own × Value)) (fun x w' => bg = .go x.1 ∧ Stp [11, 1001] (Lg.O0 A) w x.2.1 w' ∧ OwnSl 1002 rep_api_Pair 59 x.2.1 w' x.2.2 x.1) (fun x => [(3, x.2.2)]) ?_ ?_
 ·refine WC.loop (σ := (List api_Pair × Int × Own × Value)) (fun x k w' => loopN k (ref11_Sorted_lp1 a0) (x.1, x.2.1) = some bg ∧ Stp [11, 1001] (Lg.O0 A) w x.2.2.1 w' ∧ OwnSl 1001 rep_api_Pair 59 x.2.2.1 w' x.2.2.2 x.1) (fun x => [(0, v0), (3, x.2.2.2), (4, vi x.2.1)]) ([], 0, (Lg.O0 A), sn) bh (.cons z (.cons z (.cons z .nil))) ⟨h, (sr_ _ _ _), (OwnSl.nil 1001 rep_api_Pair 59)⟩ ?_
  rintro ⟨T, m, U, j⟩ bh L ⟨h, o, r⟩
  obtain ⟨bJ, cs, rfl, h, ad⟩ := rnd1 h
  unfold ref11_Sorted_lp1 at h
  try dsimp only at h o r
  refine (show WC _ _ _ _ [(0, v0), (3, j), (4, vi m)] _ from ?_)
  refine sq (sq (rg (wY (ym z) z (wY (ym z) z ?_))))
  have M := bn.i o z z
  refine wY (Y.len ty33 z M) z (wY (Y.lss_i z z) z (nl (th ?_)))
  rcases cnd h with ⟨Q, h⟩ | ⟨Q, h⟩
  ·refine WC.condT' z Q (sk (th (sq (WC.block (sq (rg (wY (ym z) z (wY (Y.len ty33 z r.src.sl) z ?_))))))))
   obtain ⟨bK, bp, h⟩ := lt1 h
   refine WL.yE (ya z) (congrArg vi bp.symm) z (nl (th (sq ?_)))
   obtain ⟨bL, h, bq⟩ := bnd h
   refine WC.join (σ := (Int × Own)) (fun x w' => x.1 = bL ∧ Stp [] U L x.2 w') (fun x => [(0, v0), (3, j), (4, vi m), (5, vi x.1)]) ?_ ?_
   ·refine WC.block ?_
    obtain ⟨bi, h, br⟩ := flow1 h
    obtain ⟨bj, h⟩ := loop_some h
    refine WC.joinB 2 (σ := (Int × Own)) (fun x w' => bi = .go x.1 ∧ Stp [] U L x.2 w') (fun x => [(0, v0), (3, j), (4, vi m), (5, vi x.1)]) ?_ ?_
    ·refine WC.loop (σ := (Int × Own)) (fun x k w' => loopN k (ref11_Sorted_lp2 a0 T m) x.1 = some bi ∧ Stp [] U L x.2 w') (fun x => [(0, v0), (3, j), (4, vi m), (5, vi x.1)]) (bK, U) bj (.cons z (.cons z (.cons z (.cons z .nil)))) ⟨h, (sr_ _ _ _)⟩ ?_
     rintro ⟨V, W⟩ bj b9 ⟨h, n⟩
     obtain ⟨bM, ct, rfl, h, ae⟩ := rnd1 h
     unfold ref11_Sorted_lp2 at h
     try dsimp only at h n
     refine (show WC _ _ _ _ [(0, v0), (3, j), (4, vi m), (5, vi V)] _ from ?_)
     refine sq (sq (WC.drawH [] [0, 1, 2, 3, 4, 5, 6, 7, 8, 9, 10, 11, 12, 13, 14, 15] W 16 fmix z (by kernel_rfl) ?_))
     intro bs p
     refine WD.y 0 z (by kernel_rfl) (fun _ _ _ => ym z) z (WD.y 1 z (by kernel_rfl) (fun _ _ _ => Y.gtr_i z z) z (WD.y 2 z (by kernel_rfl) (fun _ _ _ => ym z) z ?_))
     obtain ⟨bO, h, bt⟩ := bnd h
     refine WD.join (σ := Bool) (f' := 0) [15, 14, 13, 12, 11, 10, 9, 8, 7, 6, 5, 4, 3, 2, 1, 0] (fun x O' w' => x = bO ∧ bs = w' ∧ W = O') (fun x => [(0, v0), (3, j), (4, vi m), (5, vi V), (30, vB x)]) (fun af => ?_) ?_
     ·rcases cnd h with ⟨t, h⟩ | ⟨t, h⟩
      ·refine WD.ren 17 z (congrArg vB t) (WD.gT 3 z (by kernel_rfl) z z (fun _ _ _ => ym z) z (WD.gT 4 z (by kernel_rfl) z z (fun _ _ _ => ym z) z (WD.gT 5 z (by kernel_rfl) z z (fun _ _ _ => Y.sub_i z z) z ?_)))
       obtain ⟨X, bu, h⟩ := bnd h
       have ah := (r.st n z z z).st p z z z
       obtain ⟨cu, bY, ca, ai, bx, bz, S, ay⟩ := OwnSl.at ah bu
       obtain ⟨_, _, rfl, rfl, rfl⟩ := ay
       replace S : CellsAt _ _ _ [vs X.Key, vs X.Val] := S
       have az := CAt.own ah ai S
       refine WD.gT 6 z (by kernel_rfl) z z (fun _ _ _ => Y.indexAddr ty33 ty59 z ai z bx bz) z (WD.gT 7 z (by kernel_rfl) z z (fun _ _ _ => yf fo59_0 z) z (WD.gT 8 z (by kernel_rfl) z z (fun cb cv aA => have aC := az.st aA z; yl ty9 z z (aC.at_.sub 0 [vs X.Key] z)) z (WD.gT 9 z (by kernel_rfl) z z (fun _ _ _ => ym z) z (WD.gT 10 z (by kernel_rfl) z z (fun _ _ _ => ym z) z ?_))))
       obtain ⟨F, aD, h⟩ := bnd h
       have aF := (M.i n z z).i p z z
       obtain ⟨cc, bP, bQ, bZ, aG, aH, aI, G, aj, aJ⟩ := Sl.at2 aF aD
       obtain ⟨_, _, rfl, rfl, rfl⟩ := aj
       replace G : CellsAt _ _ _ [vs F.Key, vs F.Val] := G
       have ak := CAt.imm G aJ
       refine WD.gT 11 z (by kernel_rfl) z z (fun _ _ _ => Y.indexAddr ty33 ty59 z aG z aH aI) z (WD.gT 12 z (by kernel_rfl) z z (fun _ _ _ => yf fo59_0 z) z (WD.gT 13 z (by kernel_rfl) z z (fun b0 cd al => have aK := ak.st al z; yl ty9 z z (aK.at_.sub 0 [vs F.Key] z)) z (WD.gT 14 z (by kernel_rfl) z z (fun _ _ _ => Y.gtr_s z z) z (WD.y 15 z (by kernel_rfl) (fun _ _ _ => Y.pick (b := true) z z) z (WD.ren 17 z (congrArg vB t.symm) ?_)))))
       exact af (sLess F.Key X.Key) _ _ _ ⟨some1 h, z, z⟩ (.cons z (.cons z (.cons z (.cons z (.cons z .nil)))))
      ·refine WD.ren 17 z (congrArg vB t) (WD.gS 3 z (by kernel_rfl) z z z z (WD.gS 4 z (by kernel_rfl) z z z z (WD.gS 5 z (by kernel_rfl) z z z z (WD.gS 6 z (by kernel_rfl) z z z z (WD.gS 7 z (by kernel_rfl) z z z z (WD.gS 8 z (by kernel_rfl) z z z z (WD.gS 9 z (by kernel_rfl) z z z z (WD.gS 10 z (by kernel_rfl) z z z z (WD.gS 11 z (by kernel_rfl) z z z z ?_)))))))))
       refine WD.gS 12 z (by kernel_rfl) z z z z (WD.gS 13 z (by kernel_rfl) z z z z (WD.gS 14 z (by kernel_rfl) z z z z (WD.y 15 z (by kernel_rfl) (fun _ _ _ => Y.pick (b := false) z z) z (WD.ren 17 z (congrArg vB t.symm) ?_))))
       exact af false _ _ _ ⟨some1 h, z, z⟩ (.cons z (.cons z (.cons z (.cons z (.cons z .nil)))))
     ·rintro bR _ _ ⟨rfl, rfl, rfl⟩
      replace h := bt
      try dsimp only at h
      refine (show WD _ _ _ _ _ _ _ _ [(0, v0), (3, j), (4, vi m), (5, vi V), (30, vB bR)] _ _ from ?_)
      refine WD.done_ (by kernel_rfl) (th ?_)
      rcases cnd h with ⟨H, h⟩ | ⟨H, h⟩
      ·refine WC.condT' z H (sk (th (WC.block (rg (wY (ym z) z (wY (Y.sub_i z z) z ?_))))))
       obtain ⟨bA, aL, h⟩ := lt1 h
       refine WL.yE (ya z) (congrArg vi aL.symm) z (nl (At.inBlock ?_))
       exact At.round (bA, W) bM (Nat.lt_succ_self _) ⟨next1 h ae, (tr_ (su_ n z) (su_ p z))⟩ (.cons z (.cons z (.cons z (.cons z .nil))))
      ·refine WC.condF' z H (WC.exit (At.thenX (At.loopX ?_)))
       exact At.hitB (σ := (Int × Own)) (V, W) ⟨brk1 h ae, (tr_ (su_ n z) (su_ p z))⟩ (.cons z (.cons z (.cons z (.cons z .nil))))
    ·rintro ⟨bk, bS⟩ ce ⟨rfl, Z⟩
     replace h := flowK_go br
     try dsimp only at h Z
     refine (show At _ _ _ [(0, v0), (3, j), (4, vi m), (5, vi bk)] _ from ?_)
     refine At.inBlockHit ?_
     exact At.join (σ := (Int × Own)) (bk, bS) ⟨some1 h, (su_ Z z)⟩ (.cons z (.cons z (.cons z (.cons z .nil))))
   ·rintro ⟨bl, bT⟩ bB ⟨rfl, q⟩
    replace h := bq
    try dsimp only at h q
    refine (show At _ _ _ [(0, v0), (3, j), (4, vi m), (5, vi bl)] _ from ?_)
    refine th (sq (rg (wY (ya z) z (nl (th (sq (rg (wY (ym z) z (wY (ym z) z ?_)))))))))
    refine wY (ym z) z ?_
    obtain ⟨cf, aM, h⟩ := bnd h
    have aa := r.st q z z z
    refine WL.sliceOwn ty33 ty59 z z z aa aM z ?_
    intro cg aN
    obtain ⟨b1, am, h⟩ := bnd h
    have aO := OwnSl.nil (O := bT) (w := bB) 11 rep_api_Pair 59
    refine WL.append (by decide) ty33 ty59 z (by decide) z z aO aN.src am z ?_
    intro ch bC b2 C aP
    refine wY (ya z) z (nl (th (sq (rg (wY (ym z) z (wY (ym z) z (wY (ym z) z ?_)))))))
    obtain ⟨c, aQ, h⟩ := bnd h
    have aS := (M.i q z z).i C z z
    obtain ⟨ci, bU, bW, b3, aT, aU, aW, I, an, aX⟩ := Sl.at2 aS aQ
    obtain ⟨_, _, rfl, rfl, rfl⟩ := an
    replace I : CellsAt _ _ _ [vs c.Key, vs c.Val] := I
    have ao := CAt.imm I aX
    refine wY (Y.indexAddr ty33 ty59 z aT z aU aW) z (wY (yL ty59 z z ao.at_ z) z (WL.buildSlice (O := bC) (R := rep_api_Pair) (vals := [(0, ag [vs c.Key, vs c.Val])]) 12 [vs c.Key, vs c.Val] (xs := [c]) (by decide) ty33 ty59 (by decide) (by decide) (fe_ z) (by kernel_rfl) z ⟨[vs c.Key, vs c.Val], [], z, ⟨[vs c.Key], [vs c.Val], z, z, z⟩, z⟩ z ?_))
    intro cj ck b4 D aY
    obtain ⟨b5, ap, h⟩ := bnd h
    have aZ := aP.st D z z z
    refine WL.append (by decide) ty33 ty59 z (by decide) z z aZ aY.src ap z ?_
    intro cl cm b6 J a1
    refine wY (ya z) z (nl (th (rg (wY (ym z) z (wY (ym z) z (wY (ym z) z ?_))))))
    obtain ⟨cn, a2, h⟩ := bnd h
    have a5 := ((aa.st C z z z).st D z z z).st J z z z
    obtain ⟨co, K, a6⟩ := OwnSl.giveF rfl flat_api_Pair a5
    obtain ⟨cq, a7, a8⟩ := Sl.slice (ρ := [(46, j), (47, vi bl)]) (x := (.tmp 46)) (lo := (some (.tmp 47))) (hi := none) ty33 ty59 rfl rfl rfl a6 a2
    refine wY (Y.sub (.cons z (.cons z .nil)) (a7 _ _)) z ?_
    obtain ⟨a9, aq, h⟩ := bnd h
    have ba := a1.st K z z z
    refine WL.append (by decide) ty33 ty59 z (by decide) z z ba (Sl.src (Sl.mono a8 frs_imm)) aq z ?_
    intro bD cr b7 ar bb
    refine wY (ya z) z (nl (At.inBlock (th (rg (wY (ym z) z (wY (Y.add_i z z) z ?_))))))
    obtain ⟨bE, bc, h⟩ := lt1 h
    refine WL.yE (ya z) (congrArg vi bc.symm) z (nl ?_)
    obtain ⟨bF, au, bd⟩ := OwnSl.rlb 1001 rfl bb
    exact At.round (a9, bE, bF, bD) bJ (Nat.lt_succ_self _) ⟨next1 h ad, (tr_ (su_ o z) (tr_ (su_ q z) (tr_ (su_ C z) (tr_ (su_ D z) (tr_ (su_ J z) (tr_ (su_ K z) (tr_ (su_ ar z) (su_ au z)))))))), bd⟩ (.cons z (.cons z (.cons z .nil)))
  ·refine WC.condF' z Q (WC.exit (At.thenX (At.loopX ?_)))
   obtain ⟨bG, av, bf⟩ := OwnSl.rlb 1002 rfl r
   exact At.hitB (σ := (List api_Pair × Own × Value)) (T, bG, j) ⟨brk1 h ad, (tr_ (su_ o z) (su_ av z)), bf⟩ (.cons z .nil)
 ·rintro ⟨b8, bX, bm⟩ bH ⟨rfl, ab, ax⟩
  replace h := flowK_go bo
  try dsimp only at h ab ax
  refine (show At _ _ _ [(3, bm)] _ from ?_)
  refine At.inBlockHit (th (sq (rg (wY (ym z) z (wY (ya z) z (nl (th (rt ?_))))))))
  obtain rfl := some1 h
  have ac : Stp [11, 1001] (Lg.O0 A) w bX bH := (su_ ab z)
  exact At.res (.inl z) z (.tmp z .nil) ⟨bm, z, (se_ ac z z), (OwnSl.outF ax ac low0 z)⟩
theorem c_ref33_Apply {A : Nat → Prop} {a0 : List api_Rule} {v0 : Value} {v1_1 : Value} {v1_13 : Value} {v1_15 : Value} {a1 : api_Point} {w : World} (hs0 : Sl rep_api_Rule w A v0 a0) (hs1_1 : Sl rep_api_Pair w A v1_1 a1.Attrs) (hs1_13 : Sl Rep.u w A v1_13 a1.Hist.Pos.Counts) (hs1_15 : Sl Rep.u w A v1_15 a1.Hist.Neg.Counts) {r0 : ref33_Got} (h : ref33_Apply a0 a1 = some r0) : Rets Tryd.prog 15 [v0, ag (cp a1 v1_1 v1_13 v1_15)] w (fun v w' => ∃ (ad : Value) (az : Value) (aA : Value), v = ag [vs r0.P.Name, ad, vi r0.P.Kind, vi r0.P.Temp, vB r0.P.Mono, vi r0.P.Start, vi r0.P.Time, vi r0.P.Int_, vu r0.P.Re, vu r0.P.Im, vi r0.P.Hist.Scale, vu r0.P.Hist.Zero, vi r0.P.Hist.Pos.Offset, az, vi r0.P.Hist.Neg.Offset, aA, vi r0.P.Flags, vB r0.Kept, vi r0.E] ∧ Ext w w' ∧ RowF rep_api_Pair 59 w w' ad r0.P.Attrs ∧ Sl Rep.u w' (fun k => (k < w.heap.size ∧ A k) ∨ (w.heap.size ≤ k ∧ ob ad ≠ some k)) az r0.P.Hist.Pos.Counts ∧ Sl Rep.u w' (fun k => (k < w.heap.size ∧ A k) ∨ (w.heap.size ≤ k ∧ ob ad ≠ some k)) aA r0.P.Hist.Neg.Counts) := by
 unfold ref33_Apply at h
 refine Rets.enter Tryd.func15 z z ?_
 have bZ : Sl rep_api_Rule w (imm (Lg.O0 A)) v0 a0 := (Sl.start hs0)
 have aK : Sl rep_api_Pair w (imm (Lg.O0 A)) v1_1 a1.Attrs := (Sl.start hs1_1)
 have aL : Sl Rep.u w (imm (Lg.O0 A)) v1_13 a1.Hist.Pos.Counts := (Sl.start hs1_13)
 have aM : Sl Rep.u w (imm (Lg.O0 A)) v1_15 a1.Hist.Neg.Counts := (Sl.start hs1_15)
 refine (show WC _ _ _ _ [(0, v0), (1, ag (cp a1 v1_1 v1_13 v1_15))] _ from ?_)
 refine sq (rg ?_)
 have b0 := h
 obtain ⟨ak, al, am, rfl⟩ := aK.shape
 have h := b0
 have b1 := h
 obtain ⟨an, ao, ap, rfl⟩ := aL.shape
 have h := b1
 have b2 := h
 obtain ⟨aq, ar, au, rfl⟩ := aM.shape
 have h := b2
 refine WL.box (O := (Lg.O0 A)) 11 (cp a1 (vl ak al am) (vl an ao ap) (vl aq ar au)) z z z ?_
 intro cX cz cQ G b3
 refine WL.alloc (O := cz) 12 [vs [], sn, vi 0, vi 0, vB false, vi 0, vi 0, vi 0, vu 0, vu 0, vi 0, vu 0, vi 0, sn, vi 0, sn, vi 0, vB false, vi 0] ty46 z z ?_
 intro cY cA cR r ae
 refine nl (th (sq (sq (rg ?_))))
 have aN := b3.st r z
 refine wY (yL ty41 z z (aN.cells 0 (cp a1 (vl ak al am) (vl an ao ap) (vl aq ar au)) z) z) z ?_
 have aO := (aK.i G z z).i r z z
 have aP := (aL.i G z z).i r z z
 have aQ := (aM.i G z z).i r z z
 obtain ⟨av, b7, h⟩ := bnd h
 refine WL.call (vals := [ag (cp a1 (vl ak al am) (vl an ao ap) (vl aq ar au))]) kok18 z z (c_ref12_Check (A := fun _ => True) (a0 := a1) (Sl.all aO) (Sl.all aP) (Sl.all aQ) b7) ?_
 rintro cS cT ⟨rfl, b8⟩
 obtain ⟨ac, cC, cD, j⟩ := adoptE cA (fun k => 1) b8
 refine wY (ya z) z (nl (th (sq (rg (wY (ym z) z (wY (Y.neq_i z z) z (nl (th ?_))))))))
 rcases cnd h with ⟨ax, h⟩ | ⟨ax, h⟩
 ·refine WC.condT' z ax (sq (rg (wY (ym z) z (wY (yb (vals := [(2, vi av)]) (cells := [vs [], sn, vi 0, vi 0, vB false, vi 0, vi 0, vi 0, vu 0, vu 0, vi 0, vu 0, vi 0, sn, vi 0, sn, vi 0, vB false, vi av]) (fe_ z) (by kernel_rfl)) z ?_))))
  have b9 := ae.st j z
  refine WL.store (v := Value.agg (List.toArray [vs [], sn, vi 0, vi 0, vB false, vi 0, vi 0, vi 0, vu 0, vu 0, vi 0, vu 0, vi 0, sn, vi 0, sn, vi 0, vB false, vi av])) (cells' := [vs [], sn, vi 0, vi 0, vB false, vi 0, vi 0, vi 0, vu 0, vu 0, vi 0, vu 0, vi 0, sn, vi 0, sn, vi 0, vB false, vi av]) ty46 z z b9 z (le_ z) z z ?_
  intro ca aZ cb
  refine nl (th (rt (At.thenR ?_)))
  obtain rfl := some1 h
  have cc : Stp [12] (Lg.O0 A) w ac ca := (tr_ (su_ G z) (tr_ (su_ r z) (tr_ (su_ j z) (su_ aZ z))))
  exact At.res (.inl z) z (.cell z (cb.runAg 0 [vs [], sn, vi 0, vi 0, vB false, vi 0, vi 0, vi 0, vu 0, vu 0, vi 0, vu 0, vi 0, sn, vi 0, sn, vi 0, vB false, vi av] ty46 z z z) .nil) ⟨sn, sn, sn, z, (se_ cc z z), RowF.nil, (Or.inl ⟨z, z⟩), (Or.inl ⟨z, z⟩)⟩
 ·refine WC.condF' z ax (sk (th (sq (rg (wY (ym z) z ?_)))))
  have cd := aN.st j z
  refine wY (yL ty41 z z (cd.cells 0 (cp a1 (vl ak al am) (vl an ao ap) (vl aq ar au)) z) z) z ?_
  have cg := ((bZ.i G z z).i r z z).i j z z
  have ch := aO.i j z z
  have ci := aP.i j z z
  have cj := aQ.i j z z
  obtain ⟨c, ck, h⟩ := bnd h
  refine WL.call (vals := [v0, ag (cp a1 (vl ak al am) (vl an ao ap) (vl aq ar au))]) kok19 z z (c_ref33_Go (A := imm ac) (a1 := a1) cg ch ci cj ck) ?_
  rintro cU ay ⟨cE, cF, cG, rfl, cl, cH, cI, cJ⟩
  obtain ⟨aC, Z, aa, S⟩ := adoptE ac (fun k => 1) cl
  have cm : Sl rep_api_Pair ay (imm aC) cE c.P.Attrs := Sl.adoptI (O := ac) cH (fun _ hk => hk) (fun _ _ => Nat.le_refl _) Z aa
  have cn : Sl Rep.u ay (imm aC) cF c.P.Hist.Pos.Counts := Sl.adoptI (O := ac) cI (fun _ hk => hk) (fun _ _ => Nat.le_refl _) Z aa
  have co : Sl Rep.u ay (imm aC) cG c.P.Hist.Neg.Counts := Sl.adoptI (O := ac) cJ (fun _ hk => hk) (fun _ _ => Nat.le_refl _) Z aa
  refine WL.alloc (O := aC) 13 [vs [], sn, vi 0, vi 0, vB false, vi 0, vi 0, vi 0, vu 0, vu 0, vi 0, vu 0, vi 0, sn, vi 0, sn, vi 0, vi 0] ty52 z z ?_
  intro cZ bY cV t cq
  have aR := cm.i t z z
  have cr := h
  obtain ⟨U, V, W, rfl⟩ := aR.shape
  have h := cr
  have aS := cn.i t z z
  have cs := h
  obtain ⟨C, D, F, rfl⟩ := aS.shape
  have h := cs
  have aT := co.i t z z
  have a2 := h
  obtain ⟨m, n, o, rfl⟩ := aT.shape
  have h := a2
  refine WL.store (v := ag [vs c.P.Name, (vl U V W), vi c.P.Kind, vi c.P.Temp, vB c.P.Mono, vi c.P.Start, vi c.P.Time, vi c.P.Int_, vu c.P.Re, vu c.P.Im, vi c.P.Hist.Scale, vu c.P.Hist.Zero, vi c.P.Hist.Pos.Offset, (vl C D F), vi c.P.Hist.Neg.Offset, (vl m n o), vi c.P.Flags, vi c.Stop]) (cells' := [vs c.P.Name, (vl U V W), vi c.P.Kind, vi c.P.Temp, vB c.P.Mono, vi c.P.Start, vi c.P.Time, vi c.P.Int_, vu c.P.Re, vu c.P.Im, vi c.P.Hist.Scale, vu c.P.Hist.Zero, vi c.P.Hist.Pos.Offset, (vl C D F), vi c.P.Hist.Neg.Offset, (vl m n o), vi c.P.Flags, vi c.Stop]) ty52 z z cq z (le_ z) z z ?_
  intro cK p af
  refine nl (th (sq (sq (rg (wY (yf fo52_1 z) z (wY (yl ty3 z z (af.cell 17 _ z)) z (wY (Y.geq_i z z) z (nl (th ?_)))))))))
  rcases cnd h with ⟨ah, h⟩ | ⟨ah, h⟩
  ·refine WC.condT' z ah (sq (rg (wY (yb (vals := []) (cells := [vs [], sn, vi 0, vi 0, vB false, vi 0, vi 0, vi 0, vu 0, vu 0, vi 0, vu 0, vi 0, sn, vi 0, sn, vi 0, vB false, vi 0]) (fe_ z) (by kernel_rfl)) z ?_)))
   have a6 := (((ae.st j z).st S z).st t z).st p z
   refine WL.store (v := Value.agg (List.toArray [vs [], sn, vi 0, vi 0, vB false, vi 0, vi 0, vi 0, vu 0, vu 0, vi 0, vu 0, vi 0, sn, vi 0, sn, vi 0, vB false, vi 0])) (cells' := [vs [], sn, vi 0, vi 0, vB false, vi 0, vi 0, vi 0, vu 0, vu 0, vi 0, vu 0, vi 0, sn, vi 0, sn, vi 0, vB false, vi 0]) ty46 z z a6 z (le_ z) z z ?_
   intro a7 aU a8
   refine nl (th (rt (At.thenR ?_)))
   obtain rfl := some1 h
   have a9 : Stp [12, 13] (Lg.O0 A) w bY a7 := (tr_ (su_ G z) (tr_ (su_ r z) (tr_ (su_ j z) (tr_ (su_ S z) (tr_ (su_ t z) (tr_ (su_ p z) (su_ aU z)))))))
   exact At.res (.inl z) z (.cell z (a8.runAg 0 [vs [], sn, vi 0, vi 0, vB false, vi 0, vi 0, vi 0, vu 0, vu 0, vi 0, vu 0, vi 0, sn, vi 0, sn, vi 0, vB false, vi 0] ty46 z z z) .nil) ⟨sn, sn, sn, z, (se_ a9 z z), RowF.nil, (Or.inl ⟨z, z⟩), (Or.inl ⟨z, z⟩)⟩
  ·refine WC.condF' z ah (sk (th (sq (sq (rg (wY (yf fo52_0 z) z (wY (yL ty41 z z (af.cells 0 [vs c.P.Name, (vl U V W), vi c.P.Kind, vi c.P.Temp, vB c.P.Mono, vi c.P.Start, vi c.P.Time, vi c.P.Int_, vu c.P.Re, vu c.P.Im, vi c.P.Hist.Scale, vu c.P.Hist.Zero, vi c.P.Hist.Pos.Offset, (vl C D F), vi c.P.Hist.Neg.Offset, (vl m n o), vi c.P.Flags] z) z) z ?_)))))))
   have aD := aR.i p z z
   have aE := aS.i p z z
   have aF := aT.i p z z
   obtain ⟨ab, ba, h⟩ := bnd h
   refine WL.call (vals := [ag [vs c.P.Name, (vl U V W), vi c.P.Kind, vi c.P.Temp, vB c.P.Mono, vi c.P.Start, vi c.P.Time, vi c.P.Int_, vu c.P.Re, vu c.P.Im, vi c.P.Hist.Scale, vu c.P.Hist.Zero, vi c.P.Hist.Pos.Offset, (vl C D F), vi c.P.Hist.Neg.Offset, (vl m n o), vi c.P.Flags]]) kok18 z z (c_ref12_Check (A := fun _ => True) (a0 := c.P) (Sl.all aD) (Sl.all aE) (Sl.all aF) ba) ?_
   rintro cL cM ⟨rfl, bb⟩
   obtain ⟨aW, cw, cx, q⟩ := adoptE bY (fun k => 1) bb
   refine wY (ya z) z (nl (th (sq (rg (wY (ym z) z (wY (Y.neq_i z z) z (nl (th ?_))))))))
   rcases cnd h with ⟨ai, h⟩ | ⟨ai, h⟩
   ·refine WC.condT' z ai (sq (rg (wY (ym z) z (wY (yb (vals := [(2, vi ab)]) (cells := [vs [], sn, vi 0, vi 0, vB false, vi 0, vi 0, vi 0, vu 0, vu 0, vi 0, vu 0, vi 0, sn, vi 0, sn, vi 0, vB false, vi ab]) (fe_ z) (by kernel_rfl)) z ?_))))
    have bh := ((((ae.st j z).st S z).st t z).st p z).st q z
    refine WL.store (v := Value.agg (List.toArray [vs [], sn, vi 0, vi 0, vB false, vi 0, vi 0, vi 0, vu 0, vu 0, vi 0, vu 0, vi 0, sn, vi 0, sn, vi 0, vB false, vi ab])) (cells' := [vs [], sn, vi 0, vi 0, vB false, vi 0, vi 0, vi 0, vu 0, vu 0, vi 0, vu 0, vi 0, sn, vi 0, sn, vi 0, vB false, vi ab]) ty46 z z bh z (le_ z) z z ?_
    intro bi aX bj
    refine nl (th (rt (At.thenR ?_)))
    obtain rfl := some1 h
    have bk : Stp [12, 13] (Lg.O0 A) w aW bi := (tr_ (su_ G z) (tr_ (su_ r z) (tr_ (su_ j z) (tr_ (su_ S z) (tr_ (su_ t z) (tr_ (su_ p z) (tr_ (su_ q z) (su_ aX z))))))))
    exact At.res (.inl z) z (.cell z (bj.runAg 0 [vs [], sn, vi 0, vi 0, vB false, vi 0, vi 0, vi 0, vu 0, vu 0, vi 0, vu 0, vi 0, sn, vi 0, sn, vi 0, vB false, vi ab] ty46 z z z) .nil) ⟨sn, sn, sn, z, (se_ bk z z), RowF.nil, (Or.inl ⟨z, z⟩), (Or.inl ⟨z, z⟩)⟩
   ·refine WC.condF' z ai (sk (th (sq (rg (wY (yf fo52_0 z) z ?_)))))
    have bl := af.st q z
    refine wY (yL ty41 z z (bl.cells 0 [vs c.P.Name, (vl U V W), vi c.P.Kind, vi c.P.Temp, vB c.P.Mono, vi c.P.Start, vi c.P.Time, vi c.P.Int_, vu c.P.Re, vu c.P.Im, vi c.P.Hist.Scale, vu c.P.Hist.Zero, vi c.P.Hist.Pos.Offset, (vl C D F), vi c.P.Hist.Neg.Offset, (vl m n o), vi c.P.Flags] z) z) z (WL.alloc (O := aW) 14 [vs [], sn, vi 0, vi 0, vB false, vi 0, vi 0, vi 0, vu 0, vu 0, vi 0, vu 0, vi 0, sn, vi 0, sn, vi 0] ty41 z z ?_)
    intro cW ct cN K bm
    refine WL.store (v := ag [vs c.P.Name, (vl U V W), vi c.P.Kind, vi c.P.Temp, vB c.P.Mono, vi c.P.Start, vi c.P.Time, vi c.P.Int_, vu c.P.Re, vu c.P.Im, vi c.P.Hist.Scale, vu c.P.Hist.Zero, vi c.P.Hist.Pos.Offset, (vl C D F), vi c.P.Hist.Neg.Offset, (vl m n o), vi c.P.Flags]) (cells' := [vs c.P.Name, (vl U V W), vi c.P.Kind, vi c.P.Temp, vB c.P.Mono, vi c.P.Start, vi c.P.Time, vi c.P.Int_, vu c.P.Re, vu c.P.Im, vi c.P.Hist.Scale, vu c.P.Hist.Zero, vi c.P.Hist.Pos.Offset, (vl C D F), vi c.P.Hist.Neg.Offset, (vl m n o), vi c.P.Flags]) ty41 z z bm z (le_ z) z z ?_
    intro cO L aG
    refine nl (th (sq (rg (wY (yf fo41_1 z) z (wY (yl ty33 z z (aG.cell 1 _ z)) z ?_)))))
    have bp := ((aD.i q z z).i K z z).i L z z
    obtain ⟨cu, bq, h⟩ := bnd h
    refine WL.call (vals := [(vl U V W)]) kok22 z z (c_ref11_Sorted (A := fun _ => True) (Sl.all bp) bq) ?_
    rintro aH br ⟨_, rfl, bs, cv⟩
    obtain ⟨aY, cy, aJ, M⟩ := adoptE ct (fun k => if ob aH = some k then 15 else 1) bs
    have aI : OwnSl 15 rep_api_Pair 59 aY br aH cu := RowF.adopt 15 flat_api_Pair cv aJ (fun k hk => if_pos hk)
    refine wY (yf fo41_1 z) z ?_
    have bt := h
    obtain ⟨H, I, J, rfl⟩ := aI.shape
    have h := bt
    have bu := aG.st M z
    refine WL.store (v := (vl H I J)) (cells' := [vs c.P.Name, (vl H I J), vi c.P.Kind, vi c.P.Temp, vB c.P.Mono, vi c.P.Start, vi c.P.Time, vi c.P.Int_, vu c.P.Re, vu c.P.Im, vi c.P.Hist.Scale, vu c.P.Hist.Zero, vi c.P.Hist.Pos.Offset, (vl C D F), vi c.P.Hist.Neg.Offset, (vl m n o), vi c.P.Flags]) ty33 z z bu z (le_ z) z z ?_
    intro cP Q bw
    refine nl (th (sq (rg (wY (yL ty41 z z (bw.cells 0 [vs c.P.Name, (vl H I J), vi c.P.Kind, vi c.P.Temp, vB c.P.Mono, vi c.P.Start, vi c.P.Time, vi c.P.Int_, vu c.P.Re, vu c.P.Im, vi c.P.Hist.Scale, vu c.P.Hist.Zero, vi c.P.Hist.Pos.Offset, (vl C D F), vi c.P.Hist.Neg.Offset, (vl m n o), vi c.P.Flags] z) z) z (wY (yb (vals := [(0, ag [vs c.P.Name, (vl H I J), vi c.P.Kind, vi c.P.Temp, vB c.P.Mono, vi c.P.Start, vi c.P.Time, vi c.P.Int_, vu c.P.Re, vu c.P.Im, vi c.P.Hist.Scale, vu c.P.Hist.Zero, vi c.P.Hist.Pos.Offset, (vl C D F), vi c.P.Hist.Neg.Offset, (vl m n o), vi c.P.Flags]), (1, vB true)]) (cells := [vs c.P.Name, (vl H I J), vi c.P.Kind, vi c.P.Temp, vB c.P.Mono, vi c.P.Start, vi c.P.Time, vi c.P.Int_, vu c.P.Re, vu c.P.Im, vi c.P.Hist.Scale, vu c.P.Hist.Zero, vi c.P.Hist.Pos.Offset, (vl C D F), vi c.P.Hist.Neg.Offset, (vl m n o), vi c.P.Flags, vB true, vi 0]) (fe_ z) (by kernel_rfl)) z ?_)))))
    have bG := ((((((((ae.st j z).st S z).st t z).st p z).st q z).st K z).st L z).st M z).st Q z
    refine WL.store (v := ag [vs c.P.Name, (vl H I J), vi c.P.Kind, vi c.P.Temp, vB c.P.Mono, vi c.P.Start, vi c.P.Time, vi c.P.Int_, vu c.P.Re, vu c.P.Im, vi c.P.Hist.Scale, vu c.P.Hist.Zero, vi c.P.Hist.Pos.Offset, (vl C D F), vi c.P.Hist.Neg.Offset, (vl m n o), vi c.P.Flags, vB true, vi 0]) (cells' := [vs c.P.Name, (vl H I J), vi c.P.Kind, vi c.P.Temp, vB c.P.Mono, vi c.P.Start, vi c.P.Time, vi c.P.Int_, vu c.P.Re, vu c.P.Im, vi c.P.Hist.Scale, vu c.P.Hist.Zero, vi c.P.Hist.Pos.Offset, (vl C D F), vi c.P.Hist.Neg.Offset, (vl m n o), vi c.P.Flags, vB true, vi 0]) ty46 z z bG z (le_ z) z z ?_
    intro bH T bI
    refine nl (th (rt ?_))
    obtain rfl := some1 h
    have X : Stp [12, 13, 14] (Lg.O0 A) w aY bH := (tr_ (su_ G z) (tr_ (su_ r z) (tr_ (su_ j z) (tr_ (su_ S z) (tr_ (su_ t z) (tr_ (su_ p z) (tr_ (su_ q z) (tr_ (su_ K z) (tr_ (su_ L z) (tr_ (su_ M z) (tr_ (su_ Q z) (su_ T z))))))))))))
    have aj := (aI.st Q z z z).st T z z z
    have bQ := (((((aE.i q z z).i K z z).i L z z).i M z z).i Q z z).i T z z
    have bX := (((((aF.i q z z).i K z z).i L z z).i M z z).i Q z z).i T z z
    exact At.res (.inl z) z (.cell z (bI.runAg 0 [vs c.P.Name, (vl H I J), vi c.P.Kind, vi c.P.Temp, vB c.P.Mono, vi c.P.Start, vi c.P.Time, vi c.P.Int_, vu c.P.Re, vu c.P.Im, vi c.P.Hist.Scale, vu c.P.Hist.Zero, vi c.P.Hist.Pos.Offset, (vl C D F), vi c.P.Hist.Neg.Offset, (vl m n o), vi c.P.Flags, vB true, vi 0] ty46 z z z) .nil) ⟨(vl H I J), (vl C D F), (vl m n o), z, (se_ X z z), (OwnSl.outF aj X low0 z), (Sl.outIB bQ X low0 O0_A (fun k hk => not_own aj.labs z hk)), (Sl.outIB bX X low0 O0_A (fun k hk => not_own aj.labs z hk))⟩
theorem c_ref11_Same {A : Nat → Prop} {a0 : List api_Pair} {v0 : Value} {a1 : List api_Pair} {v1 : Value} {w : World} (hs0 : Sl rep_api_Pair w A v0 a0) (hs1 : Sl rep_api_Pair w A v1 a1) {r0 : Bool} (h : ref11_Same a0 a1 = some r0) : Rets Tryd.prog 17 [v0, v1] w (fun v w' => v = vB r0 ∧ Ext w w') := by
 unfold ref11_Same at h
 refine Rets.enter Tryd.func17 z z ?_
 have F : Sl rep_api_Pair w (imm (Lg.O0 A)) v0 a0 := (Sl.start hs0)
 have G : Sl rep_api_Pair w (imm (Lg.O0 A)) v1 a1 := (Sl.start hs1)
 refine (show WC _ _ _ _ [(0, v0), (1, v1)] _ from ?_)
 refine sq (rg (wY (ya z) z (nl (th (sq (sq (rg (wY (ym z) z (wY (Y.len ty33 z F) z ?_)))))))))
 refine wY (ym z) z (wY (Y.len ty33 z G) z (wY (Y.neq_i z z) z (nl (th ?_))))
 rcases cnd h with ⟨m, h⟩ | ⟨m, h⟩
 ·refine WC.condT' z m (sq (rg (wY (ya z) z (nl (th (rt (At.thenR ?_)))))))
  obtain rfl := some1 h
  have U : Stp [] (Lg.O0 A) w (Lg.O0 A) w := (sr_ _ _ _)
  exact At.res (.inl z) z (.tmp z .nil) ⟨z, (se_ U z z)⟩
 ·refine WC.condF' z m (sk (th (sq (sq (rg (wY (ya z) z (nl (th (WC.block ?_)))))))))
  obtain ⟨S, h, H⟩ := flow1 h
  obtain ⟨T, h⟩ := loop_some h
  refine WC.joinB 0 (σ := Own) (fun x w' => S = .go () ∧ Stp [] (Lg.O0 A) w x w') (fun x => []) ?_ ?_
  ·refine WC.loop (σ := (Int × Own)) (fun x k w' => loopN k (ref11_Same_lp1 a0 a1) x.1 = some S ∧ Stp [] (Lg.O0 A) w x.2 w') (fun x => [(0, v0), (1, v1), (5, vi x.1)]) (0, (Lg.O0 A)) T (.cons z (.cons z (.cons z .nil))) ⟨h, (sr_ _ _ _)⟩ ?_
   rintro ⟨ap, t⟩ T aA ⟨h, c⟩
   obtain ⟨aq, aE, rfl, h, n⟩ := rnd1 h
   unfold ref11_Same_lp1 at h
   try dsimp only at h c
   refine (show WC _ _ _ _ [(0, v0), (1, v1), (5, vi ap)] _ from ?_)
   refine sq (sq (rg (wY (ym z) z (wY (ym z) z ?_))))
   have I := F.i c z z
   refine wY (Y.len ty33 z I) z (wY (Y.lss_i z z) z (nl (th ?_)))
   rcases cnd h with ⟨o, h⟩ | ⟨o, h⟩
   ·refine WC.condT' z o (sk (th (sq (WC.block (sq (WC.draw 8 t fmix (by kernel_rfl) ?_))))))
    intro V j
    refine WS.y (ym z) z (WS.y (ym z) z ?_)
    obtain ⟨C, W, h⟩ := bnd h
    have X := I.i j z z
    obtain ⟨aF, av, ax, aC, Z, aa, ab, p, J, ac⟩ := Sl.at2 X W
    obtain ⟨_, _, rfl, rfl, rfl⟩ := J
    replace p : CellsAt _ _ _ [vs C.Key, vs C.Val] := p
    have K := CAt.imm p ac
    refine WS.y (Y.indexAddr ty33 ty59 z Z z aa ab) z (WS.y (yL ty59 z z K.at_ z) z (WS.y (ym z) z (WS.y (ym z) z ?_)))
    obtain ⟨D, ad, h⟩ := bnd h
    have af := (G.i c z z).i j z z
    obtain ⟨aG, ay, az, aD, ah, ai, aj, q, L, ak⟩ := Sl.at2 af ad
    obtain ⟨_, _, rfl, rfl, rfl⟩ := L
    replace q : CellsAt _ _ _ [vs D.Key, vs D.Val] := q
    have M := CAt.imm q ak
    refine WS.y (Y.indexAddr ty33 ty59 z ah z ai aj) z (WS.y (yL ty59 z z M.at_ z) z (WS.tail (wY (Y.neq_ag agok59 z z (EqF.cons (by decide) (fun w => run_part_plain w (by kernel_rfl) z) (fun w => run_part_plain w (by kernel_rfl) z) (EqV.s (a := C.Key) (b := D.Key) ty9.u) (EqF.cons (by decide) (fun w => run_part_plain w (by kernel_rfl) z) (fun w => run_part_plain w (by kernel_rfl) z) (EqV.s (a := C.Val) (b := D.Val) ty9.u) EqF.nil))) z (nl (th ?_)))))
    rcases cnd h with ⟨r, h⟩ | ⟨r, h⟩
    ·refine WC.condT' z r (sq (rg (wY (ya z) z (nl (th (rt (At.inBlockR (At.thenR (At.loopR ?_)))))))))
     have h := outr1 h n H
     refine At.joinBR (At.inBlockR (At.thenR ?_))
     obtain rfl := some1 h
     have al : Stp [] (Lg.O0 A) w t V := (tr_ (su_ c z) (su_ j z))
     exact At.res (.inl z) z (.tmp z .nil) ⟨z, (se_ al z z)⟩
    ·refine WC.condF' z r (sk (At.inBlock (th (rg (wY (ym z) z (wY (Y.add_i z z) z ?_))))))
     obtain ⟨ar, am, h⟩ := lt1 h
     refine WL.yE (ya z) (congrArg vi am.symm) z (nl ?_)
     exact At.round (ar, t) aq (Nat.lt_succ_self _) ⟨next1 h n, (tr_ (su_ c z) (su_ j z))⟩ (.cons z (.cons z (.cons z .nil)))
   ·refine WC.condF' z o (WC.exit (At.thenX (At.loopX ?_)))
    exact At.hitB (σ := Own) t ⟨brk1 h n, (su_ c z)⟩ .nil
  ·rintro au an ⟨rfl, Q⟩
   replace h := flowK_go H
   refine (show At _ _ _ [] _ from ?_)
   refine At.inBlockHit (th (sq (rg (wY (ya z) z (nl (th (rt ?_)))))))
   obtain rfl := some1 h
   have ao : Stp [] (Lg.O0 A) w au an := (su_ Q z)
   exact At.res (.inl z) z (.tmp z .nil) ⟨z, (se_ ao z z)⟩
theorem c_ref12_Same {A : Nat → Prop} {v0_1 : Value} {v0_13 : Value} {v0_15 : Value} {a0 : api_Point} {v1_1 : Value} {v1_13 : Value} {v1_15 : Value} {a1 : api_Point} {w : World} (hs0_1 : Sl rep_api_Pair w A v0_1 a0.Attrs) (hs0_13 : Sl Rep.u w A v0_13 a0.Hist.Pos.Counts) (hs0_15 : Sl Rep.u w A v0_15 a0.Hist.Neg.Counts) (hs1_1 : Sl rep_api_Pair w A v1_1 a1.Attrs) (hs1_13 : Sl Rep.u w A v1_13 a1.Hist.Pos.Counts) (hs1_15 : Sl Rep.u w A v1_15 a1.Hist.Neg.Counts) {r0 : Bool} (h : ref12_Same a0 a1 = some r0) : Rets Tryd.prog 16 [ag (cp a0 v0_1 v0_13 v0_15), ag (cp a1 v1_1 v1_13 v1_15)] w (fun v w' => v = vB r0 ∧ Ext w w') := by
 unfold ref12_Same at h
 refine Rets.enter Tryd.func16 z z ?_
 have af : Sl rep_api_Pair w (imm (Lg.O0 A)) v0_1 a0.Attrs := (Sl.start hs0_1)
 have ah : Sl Rep.u w (imm (Lg.O0 A)) v0_13 a0.Hist.Pos.Counts := (Sl.start hs0_13)
 have ai : Sl Rep.u w (imm (Lg.O0 A)) v0_15 a0.Hist.Neg.Counts := (Sl.start hs0_15)
 have bD : Sl rep_api_Pair w (imm (Lg.O0 A)) v1_1 a1.Attrs := (Sl.start hs1_1)
 have bE : Sl Rep.u w (imm (Lg.O0 A)) v1_13 a1.Hist.Pos.Counts := (Sl.start hs1_13)
 have bF : Sl Rep.u w (imm (Lg.O0 A)) v1_15 a1.Hist.Neg.Counts := (Sl.start hs1_15)
 refine (show WC _ _ _ _ [(0, ag (cp a0 v0_1 v0_13 v0_15)), (1, ag (cp a1 v1_1 v1_13 v1_15))] _ from ?_)
 refine sq (rg ?_)
 have bG := h
 obtain ⟨bw, bx, bz, rfl⟩ := af.shape
 have h := bG
 have bH := h
 obtain ⟨aj, ak, al, rfl⟩ := ah.shape
 have h := bH
 have bI := h
 obtain ⟨am, an, ao, rfl⟩ := ai.shape
 have h := bI
 refine WL.box (O := (Lg.O0 A)) 11 (cp a0 (vl bw bx bz) (vl aj ak al) (vl am an ao)) z z z ?_
 intro p cf cn r aa
 have ap := bD.i r z z
 have bJ := h
 obtain ⟨bA, bB, bC, rfl⟩ := ap.shape
 have h := bJ
 have aq := bE.i r z z
 have bK := h
 obtain ⟨ar, au, av, rfl⟩ := aq.shape
 have h := bK
 have ax := bF.i r z z
 have bL := h
 obtain ⟨ay, az, aA, rfl⟩ := ax.shape
 have h := bL
 refine WL.box (O := cf) 12 (cp a1 (vl bA bB bC) (vl ar au av) (vl ay az aA)) z z z ?_
 intro q ac co j ab
 refine wY (ya z) z (nl (th (sq (sq (WC.drawH [] [0, 1, 2, 3, 4, 5, 6, 7, 8, 9, 10, 11, 12, 13, 14] ac 15 fmix z (by kernel_rfl) ?_)))))
 intro bM c
 refine WD.y 0 z (by kernel_rfl) (fun _ _ _ => yf fo41_0 z) z (WD.y 1 z (by kernel_rfl) (fun cq cu aH => have bO := aa.st j z; have bP := bO.st c z; have bQ := bP.st aH z; yl ty9 z z (bQ.cell 0 _ z)) z (WD.y 2 z (by kernel_rfl) (fun _ _ _ => yf fo41_0 z) z (WD.y 3 z (by kernel_rfl) (fun cr cv aI => have bR := ab.st c z; have bS := bR.st aI z; yl ty9 z z (bS.cell 0 _ z)) z (WD.y 4 z (by kernel_rfl) (fun _ _ _ => Y.neq_s z z) z (WD.y 5 z (by kernel_rfl) (fun _ _ _ => ym z) z ?_)))))
 obtain ⟨cg, h, bT⟩ := bnd h
 refine WD.join (σ := (Bool × Own)) (f' := 0) [14, 13, 12, 11, 8, 10, 9, 7, 6, 5, 4, 3, 2, 1, 0] (fun x O' w' => x.1 = cg ∧ Stp [] ac bM x.2 w' ∧ x.2 = O') (fun x => [(2, pt p 0), (3, pt q 0), (19, vB x.1)]) (fun aC => ?_) ?_
 ·rcases cnd h with ⟨C, h⟩ | ⟨C, h⟩
  ·refine WD.ren 10 z (congrArg vB C) (WD.gS 6 z (by kernel_rfl) z z z z (WD.gS 7 z (by kernel_rfl) z z z z (WD.gS 9 z (by kernel_rfl) z z z z (WD.gS 10 z (by kernel_rfl) z z z z (WD.heavy 8 z (by kernel_rfl) (WL.gS z z z z (nl (At.dq (sr_ _ _ _) (WD.heavy 11 z (by kernel_rfl) ?_)))))))))
   refine WL.gS z z z z (nl (At.dq (sr_ _ _ _) (WD.heavy 12 z (by kernel_rfl) (WL.gS z z z z (nl (At.dq (sr_ _ _ _) (WD.gS 13 z (by kernel_rfl) z z z z (WD.y 14 z (by kernel_rfl) (fun _ _ _ => Y.pick (b := true) z z) z (WD.ren 10 z (congrArg vB C.symm) ?_)))))))))
   exact aC (true, ac) _ _ _ ⟨some1 h, (sr_ _ _ _), z⟩ (.cons z (.cons z (.cons z .nil)))
  ·refine WD.ren 10 z (congrArg vB C) (WD.gT 6 z (by kernel_rfl) z z (fun _ _ _ => yf fo41_1 z) z (WD.gT 7 z (by kernel_rfl) z z (fun cs cw aJ => have bU := aa.st j z; have bW := bU.st c z; have bX := bW.st aJ z; yl ty33 z z (bX.cell 1 _ z)) z (WD.gT 9 z (by kernel_rfl) z z (fun _ _ _ => yf fo41_1 z) z (WD.gT 10 z (by kernel_rfl) z z (fun ci ct aD => have aK := ab.st c z; have aL := aK.st aD z; yl ty33 z z (aL.cell 1 _ z)) z (WD.heavy 8 z (by kernel_rfl) (ug z z ?_))))))
   have aO := ((af.i r z z).i j z z).i c z z
   obtain ⟨bY, aP, h⟩ := bnd h
   refine WL.call (vals := [(vl bw bx bz)]) kok22 z z (c_ref11_Sorted (A := fun _ => True) (Sl.all aO) aP) ?_
   rintro G aQ ⟨_, rfl, aR, bZ⟩
   obtain ⟨aE, b9, ad, D⟩ := adoptE ac (fun k => if ob G = some k then 13 else 1) aR
   have aS : OwnSl 13 rep_api_Pair 59 aE aQ G bY := RowF.adopt 13 flat_api_Pair bZ ad (fun k hk => if_pos hk)
   refine nl (At.dq (su_ D z) (WD.heavy 11 z (by kernel_rfl) (ug z z ?_)))
   have aW := ((ap.i j z z).i c z z).i D z z
   obtain ⟨b0, aX, h⟩ := bnd h
   refine WL.call (vals := [(vl bA bB bC)]) kok22 z z (c_ref11_Sorted (A := fun _ => True) (Sl.all aW) aX) ?_
   rintro H aY ⟨_, rfl, aZ, b1⟩
   obtain ⟨aF, ca, ae, F⟩ := adoptE aE (fun k => if ob H = some k then 14 else 1) aZ
   have a2 : OwnSl 14 rep_api_Pair 59 aF aY H b0 := RowF.adopt 14 flat_api_Pair b1 ae (fun k hk => if_pos hk)
   refine nl (At.dq (su_ F z) (WD.heavy 12 z (by kernel_rfl) (ug z z ?_)))
   have a3 := aS.st F z z z
   obtain ⟨b2, a4, h⟩ := bnd h
   refine WL.call (vals := [G, H]) kok17 z z (c_ref11_Same (A := fun _ => True) (a3.src.sl) (a2.src.sl) a4) ?_
   rintro cj ck ⟨rfl, a5⟩
   obtain ⟨b3, cb, cc, W⟩ := adoptE aF (fun k => 1) a5
   refine nl (At.dq (su_ W z) (WD.gT 13 z (by kernel_rfl) z z (fun _ _ _ => Y.not z) z (WD.y 14 z (by kernel_rfl) (fun _ _ _ => Y.pick (b := false) z z) z (WD.ren 10 z (congrArg vB C.symm) ?_))))
   exact aC ((!b2), b3) _ _ _ ⟨some1 h, (tr_ (su_ D z) (tr_ (su_ F z) (su_ W z))), z⟩ (.cons z (.cons z (.cons z .nil)))
 ·rintro ⟨ch, X⟩ _ t ⟨rfl, m, rfl⟩
  replace h := bT
  try dsimp only at h m
  refine (show WD _ _ _ _ _ _ _ _ [(2, pt p 0), (3, pt q 0), (19, vB ch)] _ _ from ?_)
  refine WD.done_ (by kernel_rfl) (th ?_)
  rcases cnd h with ⟨I, h⟩ | ⟨I, h⟩
  ·refine WC.condT' z I (sq (rg (wY (ya z) z (nl (th (rt (At.thenR ?_)))))))
   obtain rfl := some1 h
   have a6 : Stp [] (Lg.O0 A) w X t := (tr_ (su_ r z) (tr_ (su_ j z) (tr_ (su_ c z) (su_ m z))))
   exact At.res (.inl z) z (.tmp z .nil) ⟨z, (se_ a6 z z)⟩
  ·refine WC.condF' z I (sk (th (sq (sq (rg (wY (yf fo41_2 z) z ?_))))))
   have n := ((aa.st j z).st c z).st m z
   refine wY (yl ty3 z z (n.cell 2 _ z)) z (wY (yf fo41_2 z) z ?_)
   have o := (ab.st c z).st m z
   refine wY (yl ty3 z z (o.cell 2 _ z)) z (wY (Y.neq_i z z) z (wY (ym z) z ?_))
   refine WL.cut 6 (σ := Unit) (fun _ w' => t = w') (fun _ => [(2, pt p 0), (3, pt q 0), (31, vB ((!decide (a0.Kind = a1.Kind)) || (!decide (a0.Temp = a1.Temp))))]) ?_ ?_
   ·refine WL.part 25 z (fun J => ?_) (fun J => ?_)
    ·refine WL.gS z z z z (WL.gS z z z z (WL.gS z z z z (WL.gS z z z z (WL.gS z z z z (wY (Y.pick (b := true) z z) z (WL.ren (v' := vB ((!decide (a0.Kind = a1.Kind)) || (!decide (a0.Temp = a1.Temp)))) 31 z (congrArg vB (orT J)) ?_))))))
     exact nl (At.join () z (.cons z (.cons z (.cons z .nil))))
    ·refine ug z z (wY (yf fo41_3 z) z (ug z z (wY (yl ty3 z z (n.cell 3 _ z)) z (ug z z (wY (yf fo41_3 z) z (ug z z (wY (yl ty3 z z (o.cell 3 _ z)) z (ug z z (wY (Y.neq_i z z) z ?_)))))))))
     refine wY (Y.pick (b := false) z z) z (WL.ren (v' := vB ((!decide (a0.Kind = a1.Kind)) || (!decide (a0.Temp = a1.Temp)))) 31 z (congrArg vB (orF J)) ?_)
     exact nl (At.join () z (.cons z (.cons z (.cons z .nil))))
   ·rintro _ _ rfl
    refine (show WL _ _ _ _ _ [(2, pt p 0), (3, pt q 0), (31, vB ((!decide (a0.Kind = a1.Kind)) || (!decide (a0.Temp = a1.Temp))))] _ from ?_)
    refine wY (ym z) z ?_
    refine WL.cut 6 (σ := Unit) (fun _ w' => t = w') (fun _ => [(2, pt p 0), (3, pt q 0), (38, vB (((!decide (a0.Kind = a1.Kind)) || (!decide (a0.Temp = a1.Temp))) || (!decide (a0.Mono = a1.Mono))))]) ?_ ?_
    ·refine WL.part 32 z (fun K => ?_) (fun K => ?_)
     ·refine WL.gS z z z z (WL.gS z z z z (WL.gS z z z z (WL.gS z z z z (WL.gS z z z z (wY (Y.pick (b := true) z z) z (WL.ren (v' := vB (((!decide (a0.Kind = a1.Kind)) || (!decide (a0.Temp = a1.Temp))) || (!decide (a0.Mono = a1.Mono)))) 38 z (congrArg vB (orT K)) ?_))))))
      exact nl (At.join () z (.cons z (.cons z (.cons z .nil))))
     ·refine ug z z (wY (yf fo41_4 z) z (ug z z (wY (yl ty4 z z (n.cell 4 _ z)) z (ug z z (wY (yf fo41_4 z) z (ug z z (wY (yl ty4 z z (o.cell 4 _ z)) z (ug z z (wY (Y.neqB z z ty4.u) z ?_)))))))))
      refine wY (Y.pick (b := false) z z) z (WL.ren (v' := vB (((!decide (a0.Kind = a1.Kind)) || (!decide (a0.Temp = a1.Temp))) || (!decide (a0.Mono = a1.Mono)))) 38 z (congrArg vB (orF K)) ?_)
      exact nl (At.join () z (.cons z (.cons z (.cons z .nil))))
    ·rintro _ _ rfl
     refine (show WL _ _ _ _ _ [(2, pt p 0), (3, pt q 0), (38, vB (((!decide (a0.Kind = a1.Kind)) || (!decide (a0.Temp = a1.Temp))) || (!decide (a0.Mono = a1.Mono))))] _ from ?_)
     refine wY (ym z) z ?_
     refine WL.cut 6 (σ := Unit) (fun _ w' => t = w') (fun _ => [(2, pt p 0), (3, pt q 0), (45, vB ((((!decide (a0.Kind = a1.Kind)) || (!decide (a0.Temp = a1.Temp))) || (!decide (a0.Mono = a1.Mono))) || (!decide (a0.Start = a1.Start))))]) ?_ ?_
     ·refine WL.part 39 z (fun L => ?_) (fun L => ?_)
      ·refine WL.gS z z z z (WL.gS z z z z (WL.gS z z z z (WL.gS z z z z (WL.gS z z z z (wY (Y.pick (b := true) z z) z (WL.ren (v' := vB ((((!decide (a0.Kind = a1.Kind)) || (!decide (a0.Temp = a1.Temp))) || (!decide (a0.Mono = a1.Mono))) || (!decide (a0.Start = a1.Start)))) 45 z (congrArg vB (orT L)) ?_))))))
       exact nl (At.join () z (.cons z (.cons z (.cons z .nil))))
      ·refine ug z z (wY (yf fo41_5 z) z (ug z z (wY (yl ty3 z z (n.cell 5 _ z)) z (ug z z (wY (yf fo41_5 z) z (ug z z (wY (yl ty3 z z (o.cell 5 _ z)) z (ug z z (wY (Y.neq_i z z) z ?_)))))))))
       refine wY (Y.pick (b := false) z z) z (WL.ren (v' := vB ((((!decide (a0.Kind = a1.Kind)) || (!decide (a0.Temp = a1.Temp))) || (!decide (a0.Mono = a1.Mono))) || (!decide (a0.Start = a1.Start)))) 45 z (congrArg vB (orF L)) ?_)
       exact nl (At.join () z (.cons z (.cons z (.cons z .nil))))
     ·rintro _ _ rfl
      refine (show WL _ _ _ _ _ [(2, pt p 0), (3, pt q 0), (45, vB ((((!decide (a0.Kind = a1.Kind)) || (!decide (a0.Temp = a1.Temp))) || (!decide (a0.Mono = a1.Mono))) || (!decide (a0.Start = a1.Start))))] _ from ?_)
      refine wY (ym z) z ?_
      refine WL.cut 6 (σ := Unit) (fun _ w' => t = w') (fun _ => [(2, pt p 0), (3, pt q 0), (52, vB (((((!decide (a0.Kind = a1.Kind)) || (!decide (a0.Temp = a1.Temp))) || (!decide (a0.Mono = a1.Mono))) || (!decide (a0.Start = a1.Start))) || (!decide (a0.Time = a1.Time))))]) ?_ ?_
      ·refine WL.part 46 z (fun M => ?_) (fun M => ?_)
       ·refine WL.gS z z z z (WL.gS z z z z (WL.gS z z z z (WL.gS z z z z (WL.gS z z z z (wY (Y.pick (b := true) z z) z (WL.ren (v' := vB (((((!decide (a0.Kind = a1.Kind)) || (!decide (a0.Temp = a1.Temp))) || (!decide (a0.Mono = a1.Mono))) || (!decide (a0.Start = a1.Start))) || (!decide (a0.Time = a1.Time)))) 52 z (congrArg vB (orT M)) ?_))))))
        exact nl (At.join () z (.cons z (.cons z (.cons z .nil))))
       ·refine ug z z (wY (yf fo41_6 z) z (ug z z (wY (yl ty3 z z (n.cell 6 _ z)) z (ug z z (wY (yf fo41_6 z) z (ug z z (wY (yl ty3 z z (o.cell 6 _ z)) z (ug z z (wY (Y.neq_i z z) z ?_)))))))))
        refine wY (Y.pick (b := false) z z) z (WL.ren (v' := vB (((((!decide (a0.Kind = a1.Kind)) || (!decide (a0.Temp = a1.Temp))) || (!decide (a0.Mono = a1.Mono))) || (!decide (a0.Start = a1.Start))) || (!decide (a0.Time = a1.Time)))) 52 z (congrArg vB (orF M)) ?_)
        exact nl (At.join () z (.cons z (.cons z (.cons z .nil))))
      ·rintro _ _ rfl
       refine (show WL _ _ _ _ _ [(2, pt p 0), (3, pt q 0), (52, vB (((((!decide (a0.Kind = a1.Kind)) || (!decide (a0.Temp = a1.Temp))) || (!decide (a0.Mono = a1.Mono))) || (!decide (a0.Start = a1.Start))) || (!decide (a0.Time = a1.Time))))] _ from ?_)
       refine nl (th ?_)
       rcases cnd h with ⟨Q, h⟩ | ⟨Q, h⟩
       ·refine WC.condT' z Q (sq (rg (wY (ya z) z (nl (th (rt (At.thenR ?_)))))))
        obtain rfl := some1 h
        have ba : Stp [] (Lg.O0 A) w X t := (tr_ (su_ r z) (tr_ (su_ j z) (tr_ (su_ c z) (su_ m z))))
        exact At.res (.inl z) z (.tmp z .nil) ⟨z, (se_ ba z z)⟩
       ·refine WC.condF' z Q (sk (th (sq (rg (wY (yf fo41_7 z) z (wY (yl ty3 z z (n.cell 7 _ z)) z (wY (yf fo41_7 z) z (wY (yl ty3 z z (o.cell 7 _ z)) z (wY (Y.eql_i z z) z ?_)))))))))
        refine wY (ym z) z ?_
        refine WL.cut 6 (σ := Unit) (fun _ w' => t = w') (fun _ => [(2, pt p 0), (3, pt q 0), (64, vB ((decide (a0.Int_ = a1.Int_)) && (decide (a0.Re = a1.Re))))]) ?_ ?_
        ·refine WL.part 58 z (fun S => ?_) (fun S => ?_)
         ·refine ug z z (wY (yf fo41_8 z) z (ug z z (wY (yl ty34 z z (n.cell 8 _ z)) z (ug z z (wY (yf fo41_8 z) z (ug z z (wY (yl ty34 z z (o.cell 8 _ z)) z (ug z z (wY (Y.eql_u z z) z ?_)))))))))
          refine wY (Y.pick (b := true) z z) z (WL.ren (v' := vB ((decide (a0.Int_ = a1.Int_)) && (decide (a0.Re = a1.Re)))) 64 z (congrArg vB (andT S)) ?_)
          exact nl (At.join () z (.cons z (.cons z (.cons z .nil))))
         ·refine WL.gS z z z z (WL.gS z z z z (WL.gS z z z z (WL.gS z z z z (WL.gS z z z z (wY (Y.pick (b := false) z z) z (WL.ren (v' := vB ((decide (a0.Int_ = a1.Int_)) && (decide (a0.Re = a1.Re)))) 64 z (congrArg vB (andF S)) ?_))))))
          exact nl (At.join () z (.cons z (.cons z (.cons z .nil))))
        ·rintro _ _ rfl
         refine (show WL _ _ _ _ _ [(2, pt p 0), (3, pt q 0), (64, vB ((decide (a0.Int_ = a1.Int_)) && (decide (a0.Re = a1.Re))))] _ from ?_)
         refine wY (ym z) z ?_
         refine WL.cut 6 (σ := Unit) (fun _ w' => t = w') (fun _ => [(2, pt p 0), (3, pt q 0), (71, vB (((decide (a0.Int_ = a1.Int_)) && (decide (a0.Re = a1.Re))) && (decide (a0.Im = a1.Im))))]) ?_ ?_
         ·refine WL.part 65 z (fun T => ?_) (fun T => ?_)
          ·refine ug z z (wY (yf fo41_9 z) z (ug z z (wY (yl ty34 z z (n.cell 9 _ z)) z (ug z z (wY (yf fo41_9 z) z (ug z z (wY (yl ty34 z z (o.cell 9 _ z)) z (ug z z (wY (Y.eql_u z z) z ?_)))))))))
           refine wY (Y.pick (b := true) z z) z (WL.ren (v' := vB (((decide (a0.Int_ = a1.Int_)) && (decide (a0.Re = a1.Re))) && (decide (a0.Im = a1.Im)))) 71 z (congrArg vB (andT T)) ?_)
           exact nl (At.join () z (.cons z (.cons z (.cons z .nil))))
          ·refine WL.gS z z z z (WL.gS z z z z (WL.gS z z z z (WL.gS z z z z (WL.gS z z z z (wY (Y.pick (b := false) z z) z (WL.ren (v' := vB (((decide (a0.Int_ = a1.Int_)) && (decide (a0.Re = a1.Re))) && (decide (a0.Im = a1.Im)))) 71 z (congrArg vB (andF T)) ?_))))))
           exact nl (At.join () z (.cons z (.cons z (.cons z .nil))))
         ·rintro _ _ rfl
          refine (show WL _ _ _ _ _ [(2, pt p 0), (3, pt q 0), (71, vB (((decide (a0.Int_ = a1.Int_)) && (decide (a0.Re = a1.Re))) && (decide (a0.Im = a1.Im))))] _ from ?_)
          refine wY (ym z) z ?_
          refine WL.cut 6 (σ := Unit) (fun _ w' => t = w') (fun _ => [(2, pt p 0), (3, pt q 0), (78, vB ((((decide (a0.Int_ = a1.Int_)) && (decide (a0.Re = a1.Re))) && (decide (a0.Im = a1.Im))) && (decide (a0.Flags = a1.Flags))))]) ?_ ?_
          ·refine WL.part 72 z (fun U => ?_) (fun U => ?_)
           ·refine ug z z (wY (yf fo41_11 z) z (ug z z (wY (yl ty3 z z (n.cell 16 _ z)) z (ug z z (wY (yf fo41_11 z) z (ug z z (wY (yl ty3 z z (o.cell 16 _ z)) z (ug z z (wY (Y.eql_i z z) z ?_)))))))))
            refine wY (Y.pick (b := true) z z) z (WL.ren (v' := vB ((((decide (a0.Int_ = a1.Int_)) && (decide (a0.Re = a1.Re))) && (decide (a0.Im = a1.Im))) && (decide (a0.Flags = a1.Flags)))) 78 z (congrArg vB (andT U)) ?_)
            exact nl (At.join () z (.cons z (.cons z (.cons z .nil))))
           ·refine WL.gS z z z z (WL.gS z z z z (WL.gS z z z z (WL.gS z z z z (WL.gS z z z z (wY (Y.pick (b := false) z z) z (WL.ren (v' := vB ((((decide (a0.Int_ = a1.Int_)) && (decide (a0.Re = a1.Re))) && (decide (a0.Im = a1.Im))) && (decide (a0.Flags = a1.Flags)))) 78 z (congrArg vB (andF U)) ?_))))))
            exact nl (At.join () z (.cons z (.cons z (.cons z .nil))))
          ·rintro _ _ rfl
           refine (show WL _ _ _ _ _ [(2, pt p 0), (3, pt q 0), (78, vB ((((decide (a0.Int_ = a1.Int_)) && (decide (a0.Re = a1.Re))) && (decide (a0.Im = a1.Im))) && (decide (a0.Flags = a1.Flags))))] _ from ?_)
           refine wY (ym z) z ?_
           obtain ⟨b4, h, bb⟩ := bnd h
           refine WL.cut 6 (σ := (Bool × Own)) (fun x w' => x.1 = b4 ∧ Stp [] X t x.2 w') (fun x => [(85, vB x.1)]) ?_ ?_
           ·rcases cnd h with ⟨V, h⟩ | ⟨V, h⟩
            ·refine WL.ren 79 z (congrArg vB V) (ug z z (wY (yf fo41_10 z) z (ug z z (wY (yL ty39 z z (n.cells 10 (hl a0.Hist (vl aj ak al) (vl am an ao)) z) z) z (ug z z (wY (yf fo41_10 z) z (ug z z (wY (yL ty39 z z (o.cells 10 (hl a1.Hist (vl ar au av) (vl ay az aA)) z) z) z (ug z z ?_)))))))))
             have bg := (((ah.i r z z).i j z z).i c z z).i m z z
             have bk := (((ai.i r z z).i j z z).i c z z).i m z z
             have bn := ((aq.i j z z).i c z z).i m z z
             have bq := ((ax.i j z z).i c z z).i m z z
             obtain ⟨b5, br, h⟩ := bnd h
             refine WL.call (vals := [ag (hl a0.Hist (vl aj ak al) (vl am an ao)), ag (hl a1.Hist (vl ar au av) (vl ay az aA))]) kok34 z z (c_ref08_Same (A := fun _ => True) (a0 := a0.Hist) (a1 := a1.Hist) (Sl.all bg) (Sl.all bk) (Sl.all bn) (Sl.all bq) br) ?_
             rintro cl cm ⟨rfl, bs⟩
             obtain ⟨b6, cd, ce, aG⟩ := adoptE X (fun k => 1) bs
             refine wY (Y.pick (b := true) z z) z ?_
             exact nl (At.join (σ := (Bool × Own)) (b5, b6) ⟨some1 h, (su_ aG z)⟩ (.cons z .nil))
            ·refine WL.ren 79 z (congrArg vB V) (WL.gS z z z z (WL.gS z z z z (WL.gS z z z z (WL.gS z z z z (WL.gS z z z z (wY (Y.pick (b := false) z z) z ?_))))))
             exact nl (At.join (σ := (Bool × Own)) (false, X) ⟨some1 h, (sr_ _ _ _)⟩ (.cons z .nil))
           ·rintro ⟨b7, b8⟩ bt ⟨rfl, Z⟩
            replace h := bb
            try dsimp only at h Z
            refine (show WL _ _ _ _ _ [(85, vB b7)] _ from ?_)
            refine wY (ya z) z (nl (th (rt ?_)))
            obtain rfl := some1 h
            have bu : Stp [] (Lg.O0 A) w b8 bt := (tr_ (su_ r z) (tr_ (su_ j z) (tr_ (su_ c z) (tr_ (su_ m z) (su_ Z z)))))
            exact At.res (.inl z) z (.tmp z .nil) ⟨z, (se_ bu z z)⟩
theorem c_law33_RelabelApplies {A : Nat → Prop} {a0 : List api_Rule} {v0 : Value} {v1_1 : Value} {v1_13 : Value} {v1_15 : Value} {a1 : api_Point} {w : World} (hs0 : Sl rep_api_Rule w A v0 a0) (hs1_1 : Sl rep_api_Pair w A v1_1 a1.Attrs) (hs1_13 : Sl Rep.u w A v1_13 a1.Hist.Pos.Counts) (hs1_15 : Sl Rep.u w A v1_15 a1.Hist.Neg.Counts) (hG0 : CellsAt w 0 0 [vi 0, vi 0]) (hGA0 : A 0) {r0 : Bool} (h : law33_RelabelApplies a0 a1 = some r0) : Rets Tryd.prog 4 [v0, ag (cp a1 v1_1 v1_13 v1_15)] w (fun v w' => v = vB r0 ∧ Ext w w') := by
 unfold law33_RelabelApplies at h
 refine Rets.enter Tryd.func4 z z ?_
 have eE : Sl rep_api_Rule w (imm (Lg.O0 A)) v0 a0 := (Sl.start hs0)
 have bd : Sl rep_api_Pair w (imm (Lg.O0 A)) v1_1 a1.Attrs := (Sl.start hs1_1)
 have bf : Sl Rep.u w (imm (Lg.O0 A)) v1_13 a1.Hist.Pos.Counts := (Sl.start hs1_13)
 have bg : Sl Rep.u w (imm (Lg.O0 A)) v1_15 a1.Hist.Neg.Counts := (Sl.start hs1_15)
 have eF : CAt [0, 1] (Lg.O0 A) w 0 0 [vi 0, vi 0] := CAt.glob hG0 (if_pos hGA0)
 refine (show WC _ _ _ _ [(0, v0), (1, ag (cp a1 v1_1 v1_13 v1_15))] _ from ?_)
 refine sq (rg ?_)
 have eG := h
 obtain ⟨Q, S, T, rfl⟩ := bd.shape
 have h := eG
 have eH := h
 obtain ⟨U, V, W, rfl⟩ := bf.shape
 have h := eH
 have eI := h
 obtain ⟨X, Z, aa, rfl⟩ := bg.shape
 have h := eI
 refine WL.box (O := (Lg.O0 A)) 11 (cp a1 (vl Q S T) (vl U V W) (vl X Z aa)) z z z ?_
 intro ad fU gr G bO
 refine wY (ya z) z (nl (th (sq (sq (rg ?_)))))
 have bP := eF.st G z
 obtain ⟨gE, eJ, h⟩ := bnd h
 refine WL.call (vals := []) kok7 z z (c_law33_awake (A := fun _ => True) bP.at_ trivial eJ) ?_
 rintro gs eK ⟨rfl, eL⟩
 obtain ⟨eB, fV, fY, t⟩ := adoptE fU (fun k => 1) eL
 refine wY (Y.not z) z (nl (th ?_))
 rcases cnd h with ⟨bh, h⟩ | ⟨bh, h⟩
 ·refine WC.condT' z bh (sq (rg (wY (ya z) z (nl (th (rt (At.thenR ?_)))))))
  obtain rfl := some1 h
  have eM : Stp [] (Lg.O0 A) w eB eK := (tr_ (su_ G z) (su_ t z))
  exact At.res (.inl z) z (.tmp z .nil) ⟨z, (se_ eM z z)⟩
 ·refine WC.condF' z bh (sk (th (sq (sq (rg (wY (ym z) z ?_))))))
  have bQ := (eE.i G z z).i t z z
  obtain ⟨gG, eO, h⟩ := bnd h
  refine WL.call (vals := [v0]) kok8 z z (c_ref33_Few (A := fun _ => True) (Sl.all bQ) eO) ?_
  rintro gt eP ⟨rfl, eQ⟩
  obtain ⟨bR, f0, f1, F⟩ := adoptE eB (fun k => 1) eQ
  refine wY (Y.not z) z (wY (ym z) z ?_)
  obtain ⟨f2, h, eR⟩ := bnd h
  refine WL.cut 4 (σ := (Bool × Own)) (fun x w' => x.1 = f2 ∧ Stp [] bR eP x.2 w') (fun x => [(0, v0), (3, pt ad 0), (22, vB x.1)]) ?_ ?_
  ·rcases cnd h with ⟨bi, h⟩ | ⟨bi, h⟩
   ·refine WL.ren 18 z (congrArg vB bi) (WL.gS z z z z (WL.gS z z z z (WL.gS z z z z (wY (Y.pick (b := true) z z) z ?_))))
    exact nl (At.join (σ := (Bool × Own)) (true, bR) ⟨some1 h, (sr_ _ _ _)⟩ (.cons z (.cons z (.cons z .nil))))
   ·refine WL.ren 18 z (congrArg vB bi) (ug z z ?_)
    have eT := (bO.st t z).st F z
    refine wY (yL ty41 z z (eT.cells 0 (cp a1 (vl Q S T) (vl U V W) (vl X Z aa)) z) z) z (ug z z ?_)
    have eW := ((bd.i G z z).i t z z).i F z z
    have eZ := ((bf.i G z z).i t z z).i F z z
    have e2 := ((bg.i G z z).i t z z).i F z z
    obtain ⟨f3, e5, h⟩ := bnd h
    refine WL.call (vals := [ag (cp a1 (vl Q S T) (vl U V W) (vl X Z aa))]) kok13 z z (c_ref12_Light (A := fun _ => True) (a0 := a1) (Sl.all eW) (Sl.all eZ) (Sl.all e2) e5) ?_
    rintro gu gw ⟨rfl, e6⟩
    obtain ⟨f4, f5, f6, b0⟩ := adoptE bR (fun k => 1) e6
    refine ug z z (wY (Y.not z) z (wY (Y.pick (b := false) z z) z ?_))
    exact nl (At.join (σ := (Bool × Own)) ((!f3), f4) ⟨some1 h, (su_ b0 z)⟩ (.cons z (.cons z (.cons z .nil))))
  ·rintro ⟨f7, eC⟩ e7 ⟨rfl, H⟩
   replace h := eR
   try dsimp only at h H
   refine (show WL _ _ _ _ _ [(0, v0), (3, pt ad 0), (22, vB f7)] _ from ?_)
   refine nl (th ?_)
   rcases cnd h with ⟨bj, h⟩ | ⟨bj, h⟩
   ·refine WC.condT' z bj (sq (rg (wY (ya z) z (nl (th (rt (At.thenR ?_)))))))
    obtain rfl := some1 h
    have e8 : Stp [] (Lg.O0 A) w eC e7 := (tr_ (su_ G z) (tr_ (su_ t z) (tr_ (su_ F z) (su_ H z))))
    exact At.res (.inl z) z (.tmp z .nil) ⟨z, (se_ e8 z z)⟩
   ·refine WC.condF' z bj (sk (th (sq (rg (wY (ym z) z ?_)))))
    have bS := (bQ.i F z z).i H z z
    have fd := ((bP.st t z).st F z).st H z
    obtain ⟨⟨gH, gI, gJ⟩, fe, h⟩ := bnd h
    refine WL.call (vals := [v0]) kok11 z z (c_relabel_Compile (A := fun _ => True) (Sl.all bS) fd.at_ trivial fe) ?_
    rintro gz bk ⟨f8, rfl, ff, eD⟩
    obtain ⟨bp, fI, au, J⟩ := adoptE eC (labP f8 12) ff
    refine wY (ym z) z (wY (yx z z) z (wY (yx z z) z (wY (yx z z) z (wY (ya z) z (wY (ya z) z (wY (ya z) z (nl (th (sq ?_)))))))))
    refine sq (rg (wY (ym z) z (wY (Y.eql_opt ty29.u z z eD (fun d hd => by obtain ⟨_, _, e, _⟩ := hd; exact ⟨_, e⟩)) z (nl (th ?_)))))
    rcases cnd h with ⟨ax, h⟩ | ⟨ax, h⟩
    ·refine WC.condT' z ax (sq (rg (wY (ya z) z (nl (th (rt (At.thenR ?_)))))))
     obtain rfl := some1 h
     have b1 : Stp [] (Lg.O0 A) w bp bk := (tr_ (su_ G z) (tr_ (su_ t z) (tr_ (su_ F z) (tr_ (su_ H z) (su_ J z)))))
     exact At.res (.inl z) z (.tmp z .nil) ⟨z, (se_ b1 z z)⟩
    ·refine WC.condF' z ax (sk (th (sq (rg (wY (ym z) z ?_)))))
     have bq := (((bO.st t z).st F z).st H z).st J z
     refine wY (yL ty41 z z (bq.cells 0 (cp a1 (vl Q S T) (vl U V W) (vl X Z aa)) z) z) z ?_
     obtain ⟨bl, b5, h⟩ := bnd h
     obtain ⟨L, bT, rfl, b6, fg⟩ := OptP.some eD b5
     have br : Sl rep_relabel_rule bk (frs bp) bT bl.l := Sl.adoptF fg (fun k hk => ⟨hk.1, labP_ne hk.2⟩) au
     have bs : Blk 12 bp bk L 71 [bT] := Blk.new b6 au (labP_at L 12)
     have bt := ((((bd.i G z z).i t z z).i F z z).i H z z).i J z z
     have bu := ((((bf.i G z z).i t z z).i F z z).i H z z).i J z z
     have bw := ((((bg.i G z z).i t z z).i F z z).i H z z).i J z z
     obtain ⟨⟨ab, p, ae⟩, cj, h⟩ := bnd h
     refine WL.call (vals := [pt L 0, ag (cp a1 (vl Q S T) (vl U V W) (vl X Z aa))]) kok14 z z (c_relabel_Rules_Apply (A := fun _ => True) (a0 := bl) (a1 := a1) (Sl.all br) bs.blk trivial (Sl.all bt) (Sl.all bu) (Sl.all bw) cj) ?_
     rintro f9 ay ⟨az, bm, bU, rfl, ck, fh, fi, fj, fk, fl, fm⟩
     obtain ⟨aA, fJ, af, I⟩ := adoptE bp (fun k => if ob az = some k then 13 else if ob bm = some k then 14 else if ob bU = some k then 15 else 1) ck
     have cl : OwnSl 13 rep_api_Pair 59 aA ay az ab.Attrs := RowF.adopt 13 flat_api_Pair fh af (fun k hk => if_pos hk)
     have cm : OwnSl 14 Rep.u 34 aA ay bm ab.Hist.Pos.Counts := RowF.adopt 14 Flat.u fi af (fun k hk => (if_neg (fun (e : ob az = some k) => fk k e hk)).trans (if_pos hk))
     have cn : OwnSl 15 Rep.u 34 aA ay bU ab.Hist.Neg.Counts := RowF.adopt 15 Flat.u fj af (fun k hk => (if_neg (fun (e : ob az = some k) => fl k e hk)).trans ((if_neg (fun (e : ob bm = some k) => fm k e hk)).trans (if_pos hk)))
     refine wY (ym z) z (wY (yx z z) z (wY (yx z z) z (wY (yx z z) z (WL.alloc (O := aA) 16 [vs [], sn, vi 0, vi 0, vB false, vi 0, vi 0, vi 0, vu 0, vu 0, vi 0, vu 0, vi 0, sn, vi 0, sn, vi 0] ty41 z z ?_))))
     intro aC aD ga C co
     have bx := cl.st C z z z
     have cq := h
     obtain ⟨am, an, ao, rfl⟩ := bx.shape
     have h := cq
     have bz := cm.st C z z z
     have cr := h
     obtain ⟨aE, aF, aG, rfl⟩ := bz.shape
     have h := cr
     have bA := cn.st C z z z
     have cs := h
     obtain ⟨aH, aI, aJ, rfl⟩ := bA.shape
     have h := cs
     refine WL.store (v := ag (cp ab (vl am an ao) (vl aE aF aG) (vl aH aI aJ))) (cells' := (cp ab (vl am an ao) (vl aE aF aG) (vl aH aI aJ))) ty41 z z co z (le_ z) z z ?_
     intro gb D ct
     refine wY (ya z) z (wY (ya z) z (nl (th (sq (rg (wY (ym z) z ?_))))))
     have aK := ((bq.st I z).st C z).st D z
     refine wY (yL ty41 z z (aK.cells 0 (cp a1 (vl Q S T) (vl U V W) (vl X Z aa)) z) z) z ?_
     have bB := (((bS.i J z z).i I z z).i C z z).i D z z
     have aL := ((bt.i I z z).i C z z).i D z z
     have aM := ((bu.i I z z).i C z z).i D z z
     have aN := ((bw.i I z z).i C z z).i D z z
     obtain ⟨c, cG, h⟩ := bnd h
     refine WL.call (vals := [v0, ag (cp a1 (vl Q S T) (vl U V W) (vl X Z aa))]) kok15 z z (c_ref33_Apply (A := imm aD) (a1 := a1) bB aL aM aN cG) ?_
     rintro gc aO ⟨bW, fn, fo, rfl, cH, fp, fq, fs⟩
     obtain ⟨aP, av, ah, o⟩ := adoptE aD (fun k => if ob bW = some k then 17 else 1) cH
     have cI : OwnSl 17 rep_api_Pair 59 aP aO bW c.P.Attrs := RowF.adopt 17 flat_api_Pair fp ah (fun k hk => if_pos hk)
     have cJ : Sl Rep.u aO (imm aP) fn c.P.Hist.Pos.Counts := Sl.adoptIB (O := aD) fq (fun _ hk => hk) (fun k hk => (if_neg hk).trans z) av ah
     have cK : Sl Rep.u aO (imm aP) fo c.P.Hist.Neg.Counts := Sl.adoptIB (O := aD) fs (fun _ hk => hk) (fun k hk => (if_neg hk).trans z) av ah
     refine WL.alloc (O := aP) 18 [vs [], sn, vi 0, vi 0, vB false, vi 0, vi 0, vi 0, vu 0, vu 0, vi 0, vu 0, vi 0, sn, vi 0, sn, vi 0, vB false, vi 0] ty46 z z ?_
     intro aQ ft gd j cL
     have bC := cI.st j z z z
     have cM := h
     obtain ⟨ap, aq, ar, rfl⟩ := bC.shape
     have h := cM
     have bD := cJ.i j z z
     have cN := h
     obtain ⟨aR, aS, aT, rfl⟩ := bD.shape
     have h := cN
     have bE := cK.i j z z
     have cO := h
     obtain ⟨aU, aW, aX, rfl⟩ := bE.shape
     have h := cO
     refine WL.store (v := ag [vs c.P.Name, (vl ap aq ar), vi c.P.Kind, vi c.P.Temp, vB c.P.Mono, vi c.P.Start, vi c.P.Time, vi c.P.Int_, vu c.P.Re, vu c.P.Im, vi c.P.Hist.Scale, vu c.P.Hist.Zero, vi c.P.Hist.Pos.Offset, (vl aR aS aT), vi c.P.Hist.Neg.Offset, (vl aU aW aX), vi c.P.Flags, vB c.Kept, vi c.E]) (cells' := [vs c.P.Name, (vl ap aq ar), vi c.P.Kind, vi c.P.Temp, vB c.P.Mono, vi c.P.Start, vi c.P.Time, vi c.P.Int_, vu c.P.Re, vu c.P.Im, vi c.P.Hist.Scale, vu c.P.Hist.Zero, vi c.P.Hist.Pos.Offset, (vl aR aS aT), vi c.P.Hist.Neg.Offset, (vl aU aW aX), vi c.P.Flags, vB c.Kept, vi c.E]) ty46 z z cL z (le_ z) z z ?_
     intro ge m al
     refine nl (th (sq (sq (rg ?_))))
     have bF := ((ct.st o z).st j z).st m z
     refine wY (yL ty41 z z (bF.cells 0 (cp ab (vl am an ao) (vl aE aF aG) (vl aH aI aJ)) z) z) z (wY (yf fo46_0 z) z (wY (yL ty41 z z (al.cells 0 [vs c.P.Name, (vl ap aq ar), vi c.P.Kind, vi c.P.Temp, vB c.P.Mono, vi c.P.Start, vi c.P.Time, vi c.P.Int_, vu c.P.Re, vu c.P.Im, vi c.P.Hist.Scale, vu c.P.Hist.Zero, vi c.P.Hist.Pos.Offset, (vl aR aS aT), vi c.P.Hist.Neg.Offset, (vl aU aW aX), vi c.P.Flags] z) z) z ?_))
     have bG := (((bx.st D z z z).st o z z z).st j z z z).st m z z z
     have cX := (((bz.st D z z z).st o z z z).st j z z z).st m z z z
     have c1 := (((bA.st D z z z).st o z z z).st j z z z).st m z z z
     have bH := bC.st m z z z
     have c2 := bD.i m z z
     have c3 := bE.i m z z
     obtain ⟨ac, c4, h⟩ := bnd h
     refine WL.call (vals := [ag (cp ab (vl am an ao) (vl aE aF aG) (vl aH aI aJ)), ag [vs c.P.Name, (vl ap aq ar), vi c.P.Kind, vi c.P.Temp, vB c.P.Mono, vi c.P.Start, vi c.P.Time, vi c.P.Int_, vu c.P.Re, vu c.P.Im, vi c.P.Hist.Scale, vu c.P.Hist.Zero, vi c.P.Hist.Pos.Offset, (vl aR aS aT), vi c.P.Hist.Neg.Offset, (vl aU aW aX), vi c.P.Flags]]) kok16 z z (c_ref12_Same (A := fun _ => True) (a0 := ab) (a1 := c.P) (bG.src.sl) (cX.src.sl) (c1.src.sl) (bH.src.sl) (Sl.all c2) (Sl.all c3) c4) ?_
     rintro gf aY ⟨rfl, c5⟩
     obtain ⟨bn, fK, fL, n⟩ := adoptE ft (fun k => 1) c5
     refine wY (Y.not z) z (wY (ym z) z ?_)
     refine WL.cut 5 (σ := Unit) (fun _ w' => aY = w') (fun _ => [(0, v0), (3, pt ad 0), (5, pt L 0), (8, pt aC 0), (9, vB p), (10, vi ae), (11, pt aQ 0), (51, vB ((!ac) || (!decide (p = c.Kept))))]) ?_ ?_
     ·refine WL.part 46 z (fun aZ => ?_) (fun aZ => ?_)
      ·refine WL.gS z z z z (WL.gS z z z z (WL.gS z z z z (WL.gS z z z z (wY (Y.pick (b := true) z z) z (WL.ren (v' := vB ((!ac) || (!decide (p = c.Kept)))) 51 z (congrArg vB (orT aZ)) ?_)))))
       exact nl (At.join () z (.cons z (.cons z (.cons z (.cons z (.cons z (.cons z (.cons z (.cons z .nil)))))))))
      ·refine ug z z (wY (ym z) z (ug z z (wY (yf fo46_1 z) z (ug z z ?_))))
       have c6 := al.st n z
       refine wY (yl ty4 z z (c6.cell 17 _ z)) z (ug z z (wY (Y.neqB z z ty4.u) z (wY (Y.pick (b := false) z z) z (WL.ren (v' := vB ((!ac) || (!decide (p = c.Kept)))) 51 z (congrArg vB (orF aZ)) ?_))))
       exact nl (At.join () z (.cons z (.cons z (.cons z (.cons z (.cons z (.cons z (.cons z (.cons z .nil)))))))))
     ·rintro _ _ rfl
      refine (show WL _ _ _ _ _ [(0, v0), (3, pt ad 0), (5, pt L 0), (8, pt aC 0), (9, vB p), (10, vi ae), (11, pt aQ 0), (51, vB ((!ac) || (!decide (p = c.Kept))))] _ from ?_)
      refine wY (ym z) z ?_
      refine WL.cut 5 (σ := Unit) (fun _ w' => aY = w') (fun _ => [(0, v0), (3, pt ad 0), (5, pt L 0), (8, pt aC 0), (9, vB p), (11, pt aQ 0), (57, vB (((!ac) || (!decide (p = c.Kept))) || (!decide (ae = c.E))))]) ?_ ?_
      ·refine WL.part 52 z (fun a2 => ?_) (fun a2 => ?_)
       ·refine WL.gS z z z z (WL.gS z z z z (WL.gS z z z z (WL.gS z z z z (wY (Y.pick (b := true) z z) z (WL.ren (v' := vB (((!ac) || (!decide (p = c.Kept))) || (!decide (ae = c.E)))) 57 z (congrArg vB (orT a2)) ?_)))))
        exact nl (At.join () z (.cons z (.cons z (.cons z (.cons z (.cons z (.cons z (.cons z .nil))))))))
       ·refine ug z z (wY (ym z) z (ug z z (wY (yf fo46_2 z) z (ug z z ?_))))
        have c7 := al.st n z
        refine wY (yl ty25 z z (c7.cell 18 _ z)) z (ug z z (wY (Y.neq_i z z) z (wY (Y.pick (b := false) z z) z (WL.ren (v' := vB (((!ac) || (!decide (p = c.Kept))) || (!decide (ae = c.E)))) 57 z (congrArg vB (orF a2)) ?_))))
        exact nl (At.join () z (.cons z (.cons z (.cons z (.cons z (.cons z (.cons z (.cons z .nil))))))))
      ·rintro _ _ rfl
       refine (show WL _ _ _ _ _ [(0, v0), (3, pt ad 0), (5, pt L 0), (8, pt aC 0), (9, vB p), (11, pt aQ 0), (57, vB (((!ac) || (!decide (p = c.Kept))) || (!decide (ae = c.E))))] _ from ?_)
       refine wY (ym z) z ?_
       obtain ⟨fu, h, c8⟩ := bnd h
       refine WL.cut 8 (σ := (Bool × Own)) (fun x w' => x.1 = fu ∧ Stp [] bn aY x.2 w') (fun x => [(0, v0), (3, pt ad 0), (5, pt L 0), (9, vB p), (66, vB x.1)]) ?_ ?_
       ·rcases cnd h with ⟨a3, h⟩ | ⟨a3, h⟩
        ·refine WL.ren 58 z (congrArg vB a3) (WL.gS z z z z (WL.gS z z z z (WL.gS z z z z (WL.gS z z z z (WL.gS z z z z (WL.gS z z z z (WL.gS z z z z (wY (Y.pick (b := true) z z) z ?_))))))))
         exact nl (At.join (σ := (Bool × Own)) (true, bn) ⟨some1 h, (sr_ _ _ _)⟩ (.cons z (.cons z (.cons z (.cons z (.cons z .nil))))))
        ·refine WL.ren 58 z (congrArg vB a3) (ug z z (wY (yf fo41_1 z) z (ug z z ?_)))
         have c9 := bF.st n z
         refine wY (yl ty33 z z (c9.cell 1 _ z)) z (ug z z (wY (yf fo46_0 z) z (ug z z (wY (yf fo41_1 z) z (ug z z ?_)))))
         have da := al.st n z
         refine wY (yl ty33 z z (da.cell 1 _ z)) z (ug z z ?_)
         have db := bG.st n z z z
         have dc := bH.st n z z z
         obtain ⟨fv, dd, h⟩ := bnd h
         refine WL.call (vals := [(vl am an ao), (vl ap aq ar)]) kok17 z z (c_ref11_Same (A := fun _ => True) (db.src.sl) (dc.src.sl) dd) ?_
         rintro gg gh ⟨rfl, de⟩
         obtain ⟨fw, fN, fO, bX⟩ := adoptE bn (fun k => 1) de
         refine ug z z (wY (Y.not z) z (wY (Y.pick (b := false) z z) z ?_))
         exact nl (At.join (σ := (Bool × Own)) ((!fv), fw) ⟨some1 h, (su_ bX z)⟩ (.cons z (.cons z (.cons z (.cons z (.cons z .nil))))))
       ·rintro ⟨fx, bo⟩ bI ⟨rfl, r⟩
        replace h := c8
        try dsimp only at h r
        refine (show WL _ _ _ _ _ [(0, v0), (3, pt ad 0), (5, pt L 0), (9, vB p), (66, vB fx)] _ from ?_)
        refine nl (th ?_)
        rcases cnd h with ⟨a4, h⟩ | ⟨a4, h⟩
        ·refine WC.condT' z a4 (sq (rg (wY (ya z) z (nl (th (rt (At.thenR ?_)))))))
         obtain rfl := some1 h
         have df : Stp [16, 18] (Lg.O0 A) w bo bI := (tr_ (su_ G z) (tr_ (su_ t z) (tr_ (su_ F z) (tr_ (su_ H z) (tr_ (su_ J z) (tr_ (su_ I z) (tr_ (su_ C z) (tr_ (su_ D z) (tr_ (su_ o z) (tr_ (su_ j z) (tr_ (su_ m z) (tr_ (su_ n z) (su_ r z)))))))))))))
         exact At.res (.inl z) z (.tmp z .nil) ⟨z, (se_ df z z)⟩
        ·refine WC.condF' z a4 (sk (th (sq (rg (wY (ya z) z (nl (th (sq ?_))))))))
         obtain ⟨fy, h, dg⟩ := bnd h
         refine WC.join (σ := (Int × Own)) (fun x w' => x.1 = fy ∧ Stp [] bo bI x.2 w') (fun x => [(3, pt ad 0), (5, pt L 0), (9, vB p), (12, vi x.1)]) ?_ ?_
         ·refine sq (rg ?_)
          have bJ := ((((aK.st o z).st j z).st m z).st n z).st r z
          refine wY (yL ty41 z z (bJ.cells 0 (cp a1 (vl Q S T) (vl U V W) (vl X Z aa)) z) z) z ?_
          have bK := ((((aL.i o z z).i j z z).i m z z).i n z z).i r z z
          have bL := ((((aM.i o z z).i j z z).i m z z).i n z z).i r z z
          have bM := ((((aN.i o z z).i j z z).i m z z).i n z z).i r z z
          obtain ⟨gB, dA, h⟩ := bnd h
          refine WL.call (vals := [ag (cp a1 (vl Q S T) (vl U V W) (vl X Z aa))]) kok18 z z (c_ref12_Check (A := fun _ => True) (a0 := a1) (Sl.all bK) (Sl.all bL) (Sl.all bM) dA) ?_
          rintro gi gj ⟨rfl, dB⟩
          obtain ⟨ai, fP, fQ, M⟩ := adoptE bo (fun k => 1) dB
          refine wY (Y.eql_i z z) z (nl (th ?_))
          rcases cnd h with ⟨a5, h⟩ | ⟨a5, h⟩
          ·refine WC.condT' z a5 (rg (wY (ym z) z ?_))
           have dC := bJ.st M z
           refine wY (yL ty41 z z (dC.cells 0 (cp a1 (vl Q S T) (vl U V W) (vl X Z aa)) z) z) z ?_
           have dI := (((((bB.i o z z).i j z z).i m z z).i n z z).i r z z).i M z z
           have dJ := bK.i M z z
           have dK := bL.i M z z
           have dL := bM.i M z z
           obtain ⟨a6, dM, h⟩ := bnd h
           refine WL.call (vals := [v0, ag (cp a1 (vl Q S T) (vl U V W) (vl X Z aa))]) kok19 z z (c_ref33_Go (A := imm ai) (a1 := a1) dI dJ dK dL dM) ?_
           rintro gk a7 ⟨fz, fA, fB, rfl, dN, fC, fD, fF⟩
           obtain ⟨a8, aj, ak, bY⟩ := adoptE ai (fun k => 1) dN
           have gl : Sl rep_api_Pair a7 (imm a8) fz a6.P.Attrs := Sl.adoptI (O := ai) fC (fun _ hk => hk) (fun _ _ => Nat.le_refl _) aj ak
           have gm : Sl Rep.u a7 (imm a8) fA a6.P.Hist.Pos.Counts := Sl.adoptI (O := ai) fD (fun _ hk => hk) (fun _ _ => Nat.le_refl _) aj ak
           have gn : Sl Rep.u a7 (imm a8) fB a6.P.Hist.Neg.Counts := Sl.adoptI (O := ai) fF (fun _ hk => hk) (fun _ _ => Nat.le_refl _) aj ak
           refine wY (Y.fieldSc ty52.u z z z ty3 z z z) z (wY (ya z) z (nl ?_))
           exact At.join (σ := (Int × Own)) (a6.Stop, a8) ⟨some1 h, (tr_ (su_ M z) (su_ bY z))⟩ (.cons z (.cons z (.cons z (.cons z .nil))))
          ·refine WC.condF' z a5 (sk ?_)
           exact At.join (σ := (Int × Own)) ((-1), ai) ⟨some1 h, (su_ M z)⟩ (.cons z (.cons z (.cons z (.cons z .nil))))
         ·rintro ⟨q, fG⟩ gp ⟨rfl, K⟩
          replace h := dg
          try dsimp only at h K
          refine (show At _ _ _ [(3, pt ad 0), (5, pt L 0), (9, vB p), (12, vi q)] _ from ?_)
          refine th (sq (rg (wY (ym z) z ?_)))
          have dT := (((((aK.st o z).st j z).st m z).st n z).st r z).st K z
          refine wY (yL ty41 z z (dT.cells 0 (cp a1 (vl Q S T) (vl U V W) (vl X Z aa)) z) z) z ?_
          have d2 := ((((((((bs.st I z).st C z).st D z).st o z).st j z).st m z).st n z).st r z).st K z
          have eb := ((((((((br.f I z).f C z).f D z).f o z).f j z).f m z).f n z).f r z).f K z
          have eh := (((((aL.i o z z).i j z z).i m z z).i n z z).i r z z).i K z z
          have eo := (((((aM.i o z z).i j z z).i m z z).i n z z).i r z z).i K z z
          have ew := (((((aN.i o z z).i j z z).i m z z).i n z z).i r z z).i K z z
          obtain ⟨a9, ex, h⟩ := bnd h
          refine WL.call (vals := [pt L 0, ag (cp a1 (vl Q S T) (vl U V W) (vl X Z aa))]) kok20 z z (c_relabel_Rules_Stop (A := fun _ => True) (a0 := bl) (a1 := a1) (Sl.all eb) d2.blk trivial (Sl.all eh) (Sl.all eo) (Sl.all ew) ex) ?_
          rintro gq ba ⟨rfl, ey⟩
          obtain ⟨fH, fR, fT, bZ⟩ := adoptE fG (fun k => 1) ey
          refine wY (ym z) z (wY (Y.eql_i z z) z (wY (ym z) z ?_))
          refine WL.cut 7 (σ := Unit) (fun _ w' => ba = w') (fun _ => [(86, vB ((decide (a9 = q)) && ((!p) || (decide (q < 0)))))]) ?_ ?_
          ·refine WL.part 79 z (fun bb => ?_) (fun bb => ?_)
           ·refine ug z z (wY (ym z) z (ug z z (wY (Y.not z) z (ug z z (wY (ym z) z ?_)))))
            refine WL.cut 3 (σ := Unit) (fun _ w' => ba = w') (fun _ => [(79, vB true), (85, vB ((!p) || (decide (q < 0))))]) ?_ ?_
            ·refine WL.part 82 z (fun bc => ?_) (fun bc => ?_)
             ·refine WL.gS z z z z (WL.gS z z z z (ug z z (wY (Y.pick (b := true) z z) z (WL.ren (v' := vB ((!p) || (decide (q < 0)))) 85 z (congrArg vB (orT bc)) ?_))))
              exact nl (At.join () z (.cons z (.cons z .nil)))
             ·refine ug z z (wY (ym z) z (ug z z (wY (Y.lss_i z z) z (ug z z (wY (Y.pick (b := false) z z) z (WL.ren (v' := vB ((!p) || (decide (q < 0)))) 85 z (congrArg vB (orF bc)) ?_))))))
              exact nl (At.join () z (.cons z (.cons z .nil)))
            ·rintro _ _ rfl
             refine (show WL _ _ _ _ _ [(79, vB true), (85, vB ((!p) || (decide (q < 0))))] _ from ?_)
             refine wY (Y.pick (b := true) z z) z (WL.ren (v' := vB ((decide (a9 = q)) && ((!p) || (decide (q < 0))))) 86 z (congrArg vB (andT bb)) ?_)
             exact nl (At.join () z (.cons z .nil))
           ·refine WL.gS z z z z (WL.gS z z z z (WL.gS z z z z (WL.gS z z z z (WL.gS z z z z (WL.gS z z z z (wY (Y.pick (b := false) z z) z (WL.ren (v' := vB ((decide (a9 = q)) && ((!p) || (decide (q < 0))))) 86 z (congrArg vB (andF bb)) ?_)))))))
            exact nl (At.join () z (.cons z .nil))
          ·rintro _ _ rfl
           refine (show WL _ _ _ _ _ [(86, vB ((decide (a9 = q)) && ((!p) || (decide (q < 0)))))] _ from ?_)
           obtain ⟨gC, ez, h⟩ := lt1 h
           refine WL.yE (ya z) (congrArg vB ez.symm) z (nl (th (rt ?_)))
           obtain rfl := some1 h
           have eA : Stp [16, 18] (Lg.O0 A) w fH ba := (tr_ (su_ G z) (tr_ (su_ t z) (tr_ (su_ F z) (tr_ (su_ H z) (tr_ (su_ J z) (tr_ (su_ I z) (tr_ (su_ C z) (tr_ (su_ D z) (tr_ (su_ o z) (tr_ (su_ j z) (tr_ (su_ m z) (tr_ (su_ n z) (tr_ (su_ r z) (tr_ (su_ K z) (su_ bZ z)))))))))))))))
           exact At.res (.inl z) z (.tmp z .nil) ⟨z, (se_ eA z z)⟩
end Go.Lg
