/- The walks of RollupRolls and of what it calls, printed by gen.py. -/
import Derived.Test.YtihlealbhlgikaaGreatRrLgRollWRollupRollsx3
set_option linter.unusedVariables false
namespace Go.Lg
open Go Go.Proofs
set_option maxRecDepth 100000
set_option maxHeartbeats 4000000
theorem c_ref09_Level {A : Nat → Prop} {v0_3 : Value} {v0_5 : Value} {a0 : api_Hist} {v1_3 : Value} {v1_5 : Value} {a1 : api_Hist} {w : World} (hs0_3 : Sl Rep.u w A v0_3 a0.Pos.Counts) (hs0_5 : Sl Rep.u w A v0_5 a0.Neg.Counts) (hs1_3 : Sl Rep.u w A v1_3 a1.Pos.Counts) (hs1_5 : Sl Rep.u w A v1_5 a1.Neg.Counts) {r0 : ref09_Pair} (h : ref09_Level a0 a1 = some r0) : Rets Tryz.prog 104 [ag (hl a0 v0_3 v0_5), ag (hl a1 v1_3 v1_5)] w (fun v w' => ∃ (af : Value) (ah : Value) (ai : Value) (Z : Value), v = ag [vi r0.X.Scale, vu r0.X.Zero, vi r0.X.Pos.Offset, af, vi r0.X.Neg.Offset, ah, vi r0.Y.Scale, vu r0.Y.Zero, vi r0.Y.Pos.Offset, ai, vi r0.Y.Neg.Offset, Z, vi r0.E] ∧ Ext w w' ∧ RowF Rep.u 33 w w' af r0.X.Pos.Counts ∧ RowF Rep.u 33 w w' ah r0.X.Neg.Counts ∧ RowF Rep.u 33 w w' ai r0.Y.Pos.Counts ∧ RowF Rep.u 33 w w' Z r0.Y.Neg.Counts ∧ (∀ k, ob af = some k → ob ah ≠ some k) ∧ (∀ k, ob af = some k → ob ai ≠ some k) ∧ (∀ k, ob ah = some k → ob ai ≠ some k) ∧ (∀ k, ob af = some k → ob Z ≠ some k) ∧ (∀ k, ob ah = some k → ob Z ≠ some k) ∧ (∀ k, ob ai = some k → ob Z ≠ some k)) := by
 unfold ref09_Level at h
 refine Rets.enter Tryz.func104 z z ?_
 have aW : Sl Rep.u w (imm (Lg.O0 A)) v0_3 a0.Pos.Counts := (Sl.start hs0_3)
 have aX : Sl Rep.u w (imm (Lg.O0 A)) v0_5 a0.Neg.Counts := (Sl.start hs0_5)
 have ce : Sl Rep.u w (imm (Lg.O0 A)) v1_3 a1.Pos.Counts := (Sl.start hs1_3)
 have cf : Sl Rep.u w (imm (Lg.O0 A)) v1_5 a1.Neg.Counts := (Sl.start hs1_5)
 refine (show WC _ _ _ _ [(0, ag (hl a0 v0_3 v0_5)), (1, ag (hl a1 v1_3 v1_5))] _ from ?_)
 refine sq (rg ?_)
 have cg := h
 obtain ⟨am, an, ao, rfl⟩ := aW.shape
 have h := cg
 have ch := h
 obtain ⟨ap, aq, ar, rfl⟩ := aX.shape
 have h := ch
 refine WL.box (O := (Lg.O0 A)) 11 (hl a0 (vl am an ao) (vl ap aq ar)) z z z ?_
 intro b9 cY dc t ci
 have aY := ce.i t z z
 have cj := h
 obtain ⟨au, av, ax, rfl⟩ := aY.shape
 have h := cj
 have aZ := cf.i t z z
 have ck := h
 obtain ⟨ay, az, aA, rfl⟩ := aZ.shape
 have h := ck
 refine WL.box (O := cY) 12 (hl a1 (vl au av ax) (vl ay az aA)) z z z ?_
 intro ca cZ dd r cl
 refine WL.alloc (O := cZ) 13 [vi 0, vu 0, vi 0, sn, vi 0, sn, vi 0, vu 0, vi 0, sn, vi 0, sn, vi 0] ty126 z z ?_
 intro cb c0 de m aE
 refine nl (th (sq (sq (rg ?_))))
 have a2 := (ci.st r z).st m z
 refine wY (yL ty38 z z (a2.cells 0 (hl a0 (vl am an ao) (vl ap aq ar)) z) z) z ?_
 have a3 := ((aW.i t z z).i r z z).i m z z
 have a4 := ((aX.i t z z).i r z z).i m z z
 obtain ⟨aC, cs, h⟩ := bnd h
 refine WL.call (vals := [ag (hl a0 (vl am an ao) (vl ap aq ar))]) kok56 z z (c_ref08_Check (A := fun _ => True) (a0 := a0) (Sl.all a3) (Sl.all a4) cs) ?_
 rintro df dg ⟨rfl, ct⟩
 obtain ⟨cc, c1, c2, j⟩ := adoptE c0 (fun k => 1) ct
 refine wY (ya z) z (nl (th (sq (rg (wY (ym z) z (wY (Y.neq_i z z) z (nl (th ?_))))))))
 rcases cnd h with ⟨aF, h⟩ | ⟨aF, h⟩
 ·refine WC.condT' z aF (sq (rg (wY (ym z) z (wY (yb (vals := [(2, vi aC)]) (cells := [vi 0, vu 0, vi 0, sn, vi 0, sn, vi 0, vu 0, vi 0, sn, vi 0, sn, vi aC]) (fe_ z) (by kernel_rfl)) z ?_))))
  have cu := aE.st j z
  refine WL.store (v := ag [vi 0, vu 0, vi 0, sn, vi 0, sn, vi 0, vu 0, vi 0, sn, vi 0, sn, vi aC]) (cells' := [vi 0, vu 0, vi 0, sn, vi 0, sn, vi 0, vu 0, vi 0, sn, vi 0, sn, vi aC]) ty126 z z cu z (le_ z) z z ?_
  intro cv ba cw
  refine nl (th (rt (At.thenR ?_)))
  obtain rfl := some1 h
  have cx : Stp [13] (Lg.O0 A) w cc cv := (tr_ (su_ t z) (tr_ (su_ r z) (tr_ (su_ m z) (tr_ (su_ j z) (su_ ba z)))))
  exact At.res (.inl z) z (.cell z (cw.runAg 0 [vi 0, vu 0, vi 0, sn, vi 0, sn, vi 0, vu 0, vi 0, sn, vi 0, sn, vi aC] ty126 z z z) .nil) ⟨sn, sn, sn, sn, z, (se_ cx z z), RowF.nil, RowF.nil, RowF.nil, RowF.nil, (fun _ e => absurd e not_nil), (fun _ e => absurd e not_nil), (fun _ e => absurd e not_nil), (fun _ e => absurd e not_nil), (fun _ e => absurd e not_nil), (fun _ e => absurd e not_nil)⟩
 ·refine WC.condF' z aF (sk (th (sq (sq (rg ?_)))))
  have aG := (cl.st m z).st j z
  refine wY (yL ty38 z z (aG.cells 0 (hl a1 (vl au av ax) (vl ay az aA)) z) z) z ?_
  have a5 := ((aY.i r z z).i m z z).i j z z
  have a6 := ((aZ.i r z z).i m z z).i j z z
  obtain ⟨aD, cE, h⟩ := bnd h
  refine WL.call (vals := [ag (hl a1 (vl au av ax) (vl ay az aA))]) kok56 z z (c_ref08_Check (A := fun _ => True) (a0 := a1) (Sl.all a5) (Sl.all a6) cE) ?_
  rintro dh cF ⟨rfl, cG⟩
  obtain ⟨cd, c3, c4, l⟩ := adoptE cc (fun k => 1) cG
  refine wY (ya z) z (nl (th (sq (rg (wY (ym z) z (wY (Y.neq_i z z) z (nl (th ?_))))))))
  rcases cnd h with ⟨aH, h⟩ | ⟨aH, h⟩
  ·refine WC.condT' z aH (sq (rg (wY (ym z) z (wY (yb (vals := [(2, vi aD)]) (cells := [vi 0, vu 0, vi 0, sn, vi 0, sn, vi 0, vu 0, vi 0, sn, vi 0, sn, vi aD]) (fe_ z) (by kernel_rfl)) z ?_))))
   have cI := (aE.st j z).st l z
   refine WL.store (v := ag [vi 0, vu 0, vi 0, sn, vi 0, sn, vi 0, vu 0, vi 0, sn, vi 0, sn, vi aD]) (cells' := [vi 0, vu 0, vi 0, sn, vi 0, sn, vi 0, vu 0, vi 0, sn, vi 0, sn, vi aD]) ty126 z z cI z (le_ z) z z ?_
   intro cJ bb cK
   refine nl (th (rt (At.thenR ?_)))
   obtain rfl := some1 h
   have cL : Stp [13] (Lg.O0 A) w cd cJ := (tr_ (su_ t z) (tr_ (su_ r z) (tr_ (su_ m z) (tr_ (su_ j z) (tr_ (su_ l z) (su_ bb z))))))
   exact At.res (.inl z) z (.cell z (cK.runAg 0 [vi 0, vu 0, vi 0, sn, vi 0, sn, vi 0, vu 0, vi 0, sn, vi 0, sn, vi aD] ty126 z z z) .nil) ⟨sn, sn, sn, sn, z, (se_ cL z z), RowF.nil, RowF.nil, RowF.nil, RowF.nil, (fun _ e => absurd e not_nil), (fun _ e => absurd e not_nil), (fun _ e => absurd e not_nil), (fun _ e => absurd e not_nil), (fun _ e => absurd e not_nil), (fun _ e => absurd e not_nil)⟩
  ·refine WC.condF' z aH (sk (th (sq (rg (wY (yf fo38_0 z) z ?_)))))
   have aI := (a2.st j z).st l z
   refine wY (yl ty3 z z (aI.cell 0 _ z)) z (wY (ya z) z (nl (th (sq ?_))))
   obtain ⟨c5, h, cN⟩ := bnd h
   refine WC.join (σ := Int) (fun x w' => x = c5 ∧ cF = w') (fun x => [(2, pt b9 0), (3, pt ca 0), (4, pt cb 0), (7, vi x)]) ?_ ?_
   ·refine sq (rg (wY (yf fo38_0 z) z ?_))
    have aN := aG.st l z
    refine wY (yl ty3 z z (aN.cell 0 _ z)) z (wY (ym z) z (wY (Y.lss_i z z) z (nl (th ?_))))
    rcases cnd h with ⟨al, h⟩ | ⟨al, h⟩
    ·refine WC.condT' z al (rg (wY (yf fo38_0 z) z (wY (yl ty3 z z (aN.cell 0 _ z)) z (wY (ya z) z (nl ?_)))))
     exact At.join (σ := Int) a1.Scale ⟨some1 h, z⟩ (.cons z (.cons z (.cons z (.cons z .nil))))
    ·refine WC.condF' z al (sk ?_)
     exact At.join (σ := Int) a0.Scale ⟨some1 h, z⟩ (.cons z (.cons z (.cons z (.cons z .nil))))
   ·rintro a7 _ ⟨rfl, rfl⟩
    replace h := cN
    try dsimp only at h
    refine (show At _ _ _ [(2, pt b9 0), (3, pt ca 0), (4, pt cb 0), (7, vi a7)] _ from ?_)
    refine th (sq (rg (wY (yL ty38 z z (aI.cells 0 (hl a0 (vl am an ao) (vl ap aq ar)) z) z) z (wY (yf fo38_0 z) z (wY (yl ty3 z z (aI.cell 0 _ z)) z (wY (ym z) z (wY (Y.sub_i z z) z ?_)))))))
    have bd := (a3.i j z z).i l z z
    have bg := (a4.i j z z).i l z z
    obtain ⟨⟨c, di⟩, bh, h⟩ := bnd h
    refine WL.call (vals := [ag (hl a0 (vl am an ao) (vl ap aq ar)), vi (w64 (a0.Scale - a7))]) kok105 z z (c_ref08_Down (A := fun _ => True) (a0 := a0) (Sl.all bd) (Sl.all bg) bh) ?_
    rintro c6 aO ⟨aJ, a8, rfl, bi, cO, cP, cQ⟩
    obtain ⟨aK, cW, aj, U⟩ := adoptE cd (fun k => if ob aJ = some k then 14 else if ob a8 = some k then 15 else 1) bi
    have bj : OwnSl 14 Rep.u 33 aK aO aJ c.Pos.Counts := RowF.adopt 14 Flat.u cO aj (fun k hk => if_pos hk)
    have bk : OwnSl 15 Rep.u 33 aK aO a8 c.Neg.Counts := RowF.adopt 15 Flat.u cP aj (fun k hk => (if_neg (fun (e : ob aJ = some k) => cQ k e hk)).trans (if_pos hk))
    refine wY (ym z) z (wY (yx z z) z (wY (yx z z) z (WL.alloc (O := aK) 16 hzr ty38 z z ?_)))
    intro dj cR c7 n bl
    have aP := bj.st n z z z
    have bm := h
    obtain ⟨C, D, F, rfl⟩ := aP.shape
    have h := bm
    have aQ := bk.st n z z z
    have bn := h
    obtain ⟨G, H, I, rfl⟩ := aQ.shape
    have h := bn
    refine WL.store (v := ag (hl c (vl C D F) (vl G H I))) (cells' := (hl c (vl C D F) (vl G H I))) ty38 z z bl z (le_ z) z z ?_
    intro c8 o bo
    refine wY (ya z) z (nl (th (sq (rg ?_))))
    have aR := (((aG.st l z).st U z).st n z).st o z
    refine wY (yL ty38 z z (aR.cells 0 (hl a1 (vl au av ax) (vl ay az aA)) z) z) z (wY (yf fo38_0 z) z (wY (yl ty3 z z (aR.cell 0 _ z)) z (wY (ym z) z (wY (Y.sub_i z z) z ?_))))
    have bw := (((a5.i l z z).i U z z).i n z z).i o z z
    have bB := (((a6.i l z z).i U z z).i n z z).i o z z
    obtain ⟨⟨d, dk⟩, bC, h⟩ := bnd h
    refine WL.call (vals := [ag (hl a1 (vl au av ax) (vl ay az aA)), vi (w64 (a1.Scale - a7))]) kok105 z z (c_ref08_Down (A := fun _ => True) (a0 := a1) (Sl.all bw) (Sl.all bB) bC) ?_
    rintro c9 aS ⟨aL, a9, rfl, bD, cS, cT, cU⟩
    obtain ⟨aM, cX, ak, V⟩ := adoptE cR (fun k => if ob aL = some k then 17 else if ob a9 = some k then 18 else 1) bD
    have bE : OwnSl 17 Rep.u 33 aM aS aL d.Pos.Counts := RowF.adopt 17 Flat.u cS ak (fun k hk => if_pos hk)
    have bF : OwnSl 18 Rep.u 33 aM aS a9 d.Neg.Counts := RowF.adopt 18 Flat.u cT ak (fun k hk => (if_neg (fun (e : ob aL = some k) => cU k e hk)).trans (if_pos hk))
    refine wY (ym z) z (wY (yx z z) z (wY (yx z z) z (WL.alloc (O := aM) 19 hzr ty38 z z ?_)))
    intro dl cV da p bG
    have aT := bE.st p z z z
    have bH := h
    obtain ⟨J, K, M, rfl⟩ := aT.shape
    have h := bH
    have aU := bF.st p z z z
    have bI := h
    obtain ⟨Q, S, T, rfl⟩ := aU.shape
    have h := bI
    refine WL.store (v := ag (hl d (vl J K M) (vl Q S T))) (cells' := (hl d (vl J K M) (vl Q S T))) ty38 z z bG z (le_ z) z z ?_
    intro db q bJ
    refine wY (ya z) z (nl (th (sq (rg ?_))))
    have bM := ((bo.st V z).st p z).st q z
    refine wY (yL ty38 z z (bM.cells 0 (hl c (vl C D F) (vl G H I)) z) z) z (wY (yL ty38 z z (bJ.cells 0 (hl d (vl J K M) (vl Q S T)) z) z) z (wY (yb (vals := [(0, ag (hl c (vl C D F) (vl G H I))), (1, ag (hl d (vl J K M) (vl Q S T)))]) (cells := [vi c.Scale, vu c.Zero, vi c.Pos.Offset, (vl C D F), vi c.Neg.Offset, (vl G H I), vi d.Scale, vu d.Zero, vi d.Pos.Offset, (vl J K M), vi d.Neg.Offset, (vl Q S T), vi 0]) (fe_ z) (by kernel_rfl)) z ?_))
    have bW := (((((((aE.st j z).st l z).st U z).st n z).st o z).st V z).st p z).st q z
    refine WL.store (v := ag [vi c.Scale, vu c.Zero, vi c.Pos.Offset, (vl C D F), vi c.Neg.Offset, (vl G H I), vi d.Scale, vu d.Zero, vi d.Pos.Offset, (vl J K M), vi d.Neg.Offset, (vl Q S T), vi 0]) (cells' := [vi c.Scale, vu c.Zero, vi c.Pos.Offset, (vl C D F), vi c.Neg.Offset, (vl G H I), vi d.Scale, vu d.Zero, vi d.Pos.Offset, (vl J K M), vi d.Neg.Offset, (vl Q S T), vi 0]) ty126 z z bW z (le_ z) z z ?_
    intro bX W bY
    refine nl (th (rt ?_))
    obtain rfl := some1 h
    have aa : Stp [13, 16, 19] (Lg.O0 A) w cV bX := (tr_ (su_ t z) (tr_ (su_ r z) (tr_ (su_ m z) (tr_ (su_ j z) (tr_ (su_ l z) (tr_ (su_ U z) (tr_ (su_ n z) (tr_ (su_ o z) (tr_ (su_ V z) (tr_ (su_ p z) (tr_ (su_ q z) (su_ W z))))))))))))
    have ab := ((((aP.st o z z z).st V z z z).st p z z z).st q z z z).st W z z z
    have ac := ((((aQ.st o z z z).st V z z z).st p z z z).st q z z z).st W z z z
    have ad := (aT.st q z z z).st W z z z
    have ae := (aU.st q z z z).st W z z z
    exact At.res (.inl z) z (.cell z (bY.runAg 0 [vi c.Scale, vu c.Zero, vi c.Pos.Offset, (vl C D F), vi c.Neg.Offset, (vl G H I), vi d.Scale, vu d.Zero, vi d.Pos.Offset, (vl J K M), vi d.Neg.Offset, (vl Q S T), vi 0] ty126 z z z) .nil) ⟨(vl C D F), (vl G H I), (vl J K M), (vl Q S T), z, (se_ aa z z), (OwnSl.outF ab aa low0 z), (OwnSl.outF ac aa low0 z), (OwnSl.outF ad aa low0 z), (OwnSl.outF ae aa low0 z), (ne_own ab ac z), (ne_own ab ad z), (ne_own ac ad z), (ne_own ab ae z), (ne_own ac ae z), (ne_own ad ae z)⟩
theorem c_ref09_reach {A : Nat → Prop} {v0_1 : Value} {a0 : api_Side} {v1_1 : Value} {a1 : api_Side} {w : World} (hs0_1 : Sl Rep.u w A v0_1 a0.Counts) (hs1_1 : Sl Rep.u w A v1_1 a1.Counts) {r0 : Int} {r1 : Int} {r2 : Bool} (h : ref09_reach a0 a1 = some (r0, r1, r2)) : Rets Tryz.prog 151 [ag [vi a0.Offset, v0_1], ag [vi a1.Offset, v1_1]] w (fun v w' => v = tp [vi r0, vi r1, vB r2] ∧ Ext w w') := by
 unfold ref09_reach at h
 refine Rets.enter Tryz.func151 z z ?_
 have ae : Sl Rep.u w (imm (Lg.O0 A)) v0_1 a0.Counts := (Sl.start hs0_1)
 have ao : Sl Rep.u w (imm (Lg.O0 A)) v1_1 a1.Counts := (Sl.start hs1_1)
 refine (show WC _ _ _ _ [(0, ag [vi a0.Offset, v0_1]), (1, ag [vi a1.Offset, v1_1])] _ from ?_)
 refine sq (rg ?_)
 have ap := h
 obtain ⟨ak, al, am, rfl⟩ := ae.shape
 have h := ap
 refine WL.box (O := (Lg.O0 A)) 11 [vi a0.Offset, (vl ak al am)] z z z ?_
 intro n aR aW j aq
 have t := ao.i j z z
 have ar := h
 obtain ⟨p, q, r, rfl⟩ := t.shape
 have h := ar
 refine WL.box (O := aR) 12 [vi a1.Offset, (vl p q r)] z z z ?_
 intro o V F c G
 refine wY (ya z) z (wY (ya z) z (wY (ya z) z (nl (th (sq (sq (rg (wY (yf fo36_1 z) z ?_))))))))
 have C := aq.st c z
 refine wY (yl ty34 z z (C.cell 1 _ z)) z ?_
 have H := (ae.i j z z).i c z z
 refine wY (Y.len ty34 z H) z (wY (Y.eql_i z z) z (wY (ym z) z ?_))
 refine WL.cut 5 (σ := Unit) (fun _ w' => F = w') (fun _ => [(2, pt n 0), (3, pt o 0), (16, vB ((decide ((a0.Counts.length : Int) = 0)) && (decide ((a1.Counts.length : Int) = 0))))]) ?_ ?_
 ·refine WL.part 11 z (fun I => ?_) (fun I => ?_)
  ·refine ug z z (wY (yf fo36_1 z) z (ug z z (wY (yl ty34 z z (G.cell 1 _ z)) z (ug z z ?_))))
   have av := t.i c z z
   refine wY (Y.len ty34 z av) z (ug z z (wY (Y.eql_i z z) z (wY (Y.pick (b := true) z z) z (WL.ren (v' := vB ((decide ((a0.Counts.length : Int) = 0)) && (decide ((a1.Counts.length : Int) = 0)))) 16 z (congrArg vB (andT I)) ?_))))
   exact nl (At.join () z (.cons z (.cons z (.cons z .nil))))
  ·refine WL.gS z z z z (WL.gS z z z z (WL.gS z z z z (WL.gS z z z z (wY (Y.pick (b := false) z z) z (WL.ren (v' := vB ((decide ((a0.Counts.length : Int) = 0)) && (decide ((a1.Counts.length : Int) = 0)))) 16 z (congrArg vB (andF I)) ?_)))))
   exact nl (At.join () z (.cons z (.cons z (.cons z .nil))))
 ·rintro _ _ rfl
  refine (show WL _ _ _ _ _ [(2, pt n 0), (3, pt o 0), (16, vB ((decide ((a0.Counts.length : Int) = 0)) && (decide ((a1.Counts.length : Int) = 0))))] _ from ?_)
  refine nl (th ?_)
  rcases cnd h with ⟨J, h⟩ | ⟨J, h⟩
  ·refine WC.condT' z J (sq (rg (wY (ya z) z (wY (ya z) z (wY (ya z) z (nl (th (rt (At.thenR ?_)))))))))
   obtain ⟨rfl, rfl, rfl⟩ := tup3 h
   have ax : Stp [] (Lg.O0 A) w V F := (tr_ (su_ j z) (su_ c z))
   exact At.res (.inl z) z (.tmp z (.tmp z (.tmp z .nil))) ⟨z, (se_ ax z z)⟩
  ·refine WC.condF' z J (sk (th (sq ?_)))
   obtain ⟨aS, h, ay⟩ := bnd h
   refine WC.join (σ := (Int × List UInt64 × Own × Value)) (fun x w' => (x.1, x.2.1) = aS ∧ Stp [11] V F x.2.2.1 w' ∧ Sl Rep.u w' (imm x.2.2.1) x.2.2.2 x.2.1 ∧ Blk 11 x.2.2.1 w' n 36 [vi x.1, x.2.2.2]) (fun x => [(2, pt n 0), (3, pt o 0)]) ?_ ?_
   ·refine sq (rg (wY (yf fo36_1 z) z (wY (yl ty34 z z (C.cell 1 _ z)) z (wY (Y.len ty34 z H) z (wY (Y.eql_i z z) z (nl (th ?_)))))))
    rcases cnd h with ⟨K, h⟩ | ⟨K, h⟩
    ·refine WC.condT' z K (rg (wY (yL ty36 z z (G.cells 0 [vi a1.Offset, (vl p q r)] z) z) z (WL.store (v := ag [vi a1.Offset, (vl p q r)]) (cells' := [vi a1.Offset, (vl p q r)]) ty36 z z C z (le_ z) z z ?_)))
     intro aX W az
     refine nl ?_
     have aC := (t.i c z z).i W z z
     exact At.join (σ := (Int × List UInt64 × Own × Value)) (a1.Offset, a1.Counts, V, (vl p q r)) ⟨some1 h, (su_ W z), aC, az⟩ (.cons z (.cons z .nil))
    ·refine WC.condF' z K (sk ?_)
     exact At.join (σ := (Int × List UInt64 × Own × Value)) (a0.Offset, a0.Counts, V, (vl ak al am)) ⟨some1 h, (sr_ _ _ _), H, C⟩ (.cons z (.cons z .nil))
   ·rintro ⟨Z, aT, af, a2⟩ aD ⟨rfl, l, D, M⟩
    replace h := ay
    try dsimp only at h l D M
    refine (show At _ _ _ [(2, pt n 0), (3, pt o 0)] _ from ?_)
    refine th (sq ?_)
    have aE := h
    obtain ⟨aa, ab, ac, rfl⟩ := D.shape
    have h := aE
    obtain ⟨aU, h, aF⟩ := bnd h
    refine WC.join (σ := (Int × List UInt64 × Own × Value)) (fun x w' => (x.1, x.2.1) = aU ∧ Stp [12] af aD x.2.2.1 w' ∧ Sl Rep.u w' (imm x.2.2.1) x.2.2.2 x.2.1 ∧ Blk 12 x.2.2.1 w' o 36 [vi x.1, x.2.2.2]) (fun x => [(2, pt n 0), (3, pt o 0)]) ?_ ?_
    ·refine sq (rg (wY (yf fo36_1 z) z ?_))
     have Q := G.st l z
     refine wY (yl ty34 z z (Q.cell 1 _ z)) z ?_
     have ah := (t.i c z z).i l z z
     refine wY (Y.len ty34 z ah) z (wY (Y.eql_i z z) z (nl (th ?_)))
     rcases cnd h with ⟨S, h⟩ | ⟨S, h⟩
     ·refine WC.condT' z S (rg (wY (yL ty36 z z (M.cells 0 [vi Z, (vl aa ab ac)] z) z) z (WL.store (v := ag [vi Z, (vl aa ab ac)]) (cells' := [vi Z, (vl aa ab ac)]) ty36 z z Q z (le_ z) z z ?_)))
      intro aY ad aH
      refine nl ?_
      have aI := D.i ad z z
      exact At.join (σ := (Int × List UInt64 × Own × Value)) (Z, aT, af, (vl aa ab ac)) ⟨some1 h, (su_ ad z), aI, aH⟩ (.cons z (.cons z .nil))
     ·refine WC.condF' z S (sk ?_)
      exact At.join (σ := (Int × List UInt64 × Own × Value)) (a1.Offset, a1.Counts, af, (vl p q r)) ⟨some1 h, (sr_ _ _ _), ah, Q⟩ (.cons z (.cons z .nil))
    ·rintro ⟨a3, a4, an, a5⟩ aZ ⟨rfl, m, ai, aj⟩
     replace h := aF
     try dsimp only at h m ai aj
     refine (show At _ _ _ [(2, pt n 0), (3, pt o 0)] _ from ?_)
     refine th (sq (WC.draw 21 an fmix (by kernel_rfl) ?_))
     intro aJ d
     refine WS.y (yf fo36_0 z) z ?_
     have T := (M.st m z).st d z
     refine WS.y (yl ty3 z z (T.cell 0 _ z)) z (WS.y (yf fo36_0 z) z ?_)
     have U := aj.st d z
     refine WS.y (yl ty3 z z (U.cell 0 _ z)) z (WS.y (Y.min_i z z) z (WS.y (yf fo36_0 z) z (WS.y (yl ty3 z z (T.cell 0 _ z)) z (WS.y (yf fo36_1 z) z (WS.y (yl ty34 z z (T.cell 1 _ z)) z ?_)))))
     have aM := (D.i m z z).i d z z
     refine WS.y (Y.len ty34 z aM) z (WS.y (Y.add_i z z) z (WS.y (yf fo36_0 z) z (WS.y (yl ty3 z z (U.cell 0 _ z)) z (WS.y (yf fo36_1 z) z (WS.y (yl ty34 z z (U.cell 1 _ z)) z ?_)))))
     have aN := ai.i d z z
     refine WS.y (Y.len ty34 z aN) z (WS.y (Y.add_i z z) z (WS.y (Y.max_i z z) z (WS.y (Y.sub_i z z) z ?_)))
     obtain ⟨a6, aO, h⟩ := lt1 h
     refine WS.yE (ya z) (congrArg vi aO.symm) z ?_
     obtain ⟨a7, aP, h⟩ := lt1 h
     refine WS.yE (ya z) (congrArg vi aP.symm) z (WS.tail (wY (ya z) z (nl (th (rt ?_)))))
     obtain ⟨rfl, rfl, rfl⟩ := tup3 h
     have aQ : Stp [11, 12] (Lg.O0 A) w an aJ := (tr_ (su_ j z) (tr_ (su_ c z) (tr_ (su_ l z) (tr_ (su_ m z) (su_ d z)))))
     exact At.res (.inl z) z (.tmp z (.tmp z (.tmp z .nil))) ⟨z, (se_ aQ z z)⟩
theorem c_ref09_At {A : Nat → Prop} {v0_1 : Value} {a0 : api_Side} {a1 : Int} {w : World} (hs0_1 : Sl Rep.u w A v0_1 a0.Counts) {r0 : UInt64} (h : ref09_At a0 a1 = some r0) : Rets Tryz.prog 152 [ag [vi a0.Offset, v0_1], vi a1] w (fun v w' => v = vu r0 ∧ Ext w w') := by
 unfold ref09_At at h
 refine Rets.enter Tryz.func152 z z ?_
 have j : Sl Rep.u w (imm (Lg.O0 A)) v0_1 a0.Counts := (Sl.start hs0_1)
 refine (show WC _ _ _ _ [(0, ag [vi a0.Offset, v0_1]), (1, vi a1)] _ from ?_)
 refine sq (rg ?_)
 have C := h
 obtain ⟨S, T, U, rfl⟩ := j.shape
 have h := C
 refine WL.box (O := (Lg.O0 A)) 11 [vi a0.Offset, (vl S T U)] z z z ?_
 intro r t l c d
 refine wY (ya (v := vu 0) z) z (nl (th (sq (sq (rg (wY (ym z) z (wY (yf fo36_0 z) z (wY (yl ty3 z z (d.cell 0 _ z)) z (wY (Y.lss_i z z) z ?_)))))))))
 refine wY (ym z) z ?_
 refine WL.cut 9 (σ := Unit) (fun _ w' => l = w') (fun _ => [(1, vi a1), (2, pt r 0), (18, vB ((decide (a1 < a0.Offset)) || (decide (w64 (a0.Offset + (a0.Counts.length : Int)) ≤ a1))))]) ?_ ?_
 ·refine WL.part 9 z (fun m => ?_) (fun m => ?_)
  ·refine WL.gS z z z z (WL.gS z z z z (WL.gS z z z z (WL.gS z z z z (WL.gS z z z z (WL.gS z z z z (WL.gS z z z z (WL.gS z z z z (wY (Y.pick (b := true) z z) z (WL.ren (v' := vB ((decide (a1 < a0.Offset)) || (decide (w64 (a0.Offset + (a0.Counts.length : Int)) ≤ a1)))) 18 z (congrArg vB (orT m)) ?_)))))))))
   exact nl (At.join () z (.cons z (.cons z (.cons z .nil))))
  ·refine ug z z (wY (ym z) z (ug z z (wY (yf fo36_0 z) z (ug z z (wY (yl ty3 z z (d.cell 0 _ z)) z (ug z z (wY (yf fo36_1 z) z (ug z z (wY (yl ty34 z z (d.cell 1 _ z)) z ?_)))))))))
   refine ug z z ?_
   have D := j.i c z z
   refine wY (Y.len ty34 z D) z (ug z z (wY (Y.add_i z z) z (ug z z (wY (Y.geq_i z z) z (wY (Y.pick (b := false) z z) z (WL.ren (v' := vB ((decide (a1 < a0.Offset)) || (decide (w64 (a0.Offset + (a0.Counts.length : Int)) ≤ a1)))) 18 z (congrArg vB (orF m)) ?_))))))
   exact nl (At.join () z (.cons z (.cons z (.cons z .nil))))
 ·rintro _ _ rfl
  refine (show WL _ _ _ _ _ [(1, vi a1), (2, pt r 0), (18, vB ((decide (a1 < a0.Offset)) || (decide (w64 (a0.Offset + (a0.Counts.length : Int)) ≤ a1))))] _ from ?_)
  refine nl (th ?_)
  rcases cnd h with ⟨n, h⟩ | ⟨n, h⟩
  ·refine WC.condT' z n (sq (rg (wY (ya (v := vu 0) z) z (nl (th (rt (At.thenR ?_)))))))
   obtain rfl := some1 h
   have F : Stp [] (Lg.O0 A) w t l := (su_ c z)
   exact At.res (.inl z) z (.tmp z .nil) ⟨z, (se_ F z z)⟩
  ·refine WC.condF' z n (sk (th (sq (rg (wY (yf fo36_1 z) z (wY (yl ty34 z z (d.cell 1 _ z)) z (wY (ym z) z (wY (yf fo36_0 z) z (wY (yl ty3 z z (d.cell 0 _ z)) z ?_)))))))))
   refine wY (Y.sub_i z z) z ?_
   obtain ⟨V, G, h⟩ := bnd h
   have H := j.i c z z
   obtain ⟨ab, W, Z, aa, I, J, K, o, p, M⟩ := Sl.at2 H G
   obtain rfl := p
   replace o : CellsAt _ _ _ [vu V] := o
   have q := CAt.imm o M
   refine wY (Y.indexAddr ty34 ty33 z I z J K) z (wY (yl ty33 z z q.at_) z (wY (ya z) z (nl (th (rt ?_)))))
   obtain rfl := some1 h
   have Q : Stp [] (Lg.O0 A) w t l := (su_ c z)
   exact At.res (.inl z) z (.tmp z .nil) ⟨z, (se_ Q z z)⟩
theorem c_ref09_both {A : Nat → Prop} {v0_1 : Value} {a0 : api_Side} {v1_1 : Value} {a1 : api_Side} {w : World} (hs0_1 : Sl Rep.u w A v0_1 a0.Counts) (hs1_1 : Sl Rep.u w A v1_1 a1.Counts) {r0 : api_Side} {r1 : Bool} (h : ref09_both a0 a1 = some (r0, r1)) : Rets Tryz.prog 132 [ag [vi a0.Offset, v0_1], ag [vi a1.Offset, v1_1]] w (fun v w' => ∃ (aq : Value), v = Value.tuple (List.toArray [ag [vi r0.Offset, aq], vB r1]) ∧ Ext w w' ∧ RowF Rep.u 33 w w' aq r0.Counts) := by
 unfold ref09_both at h
 refine Rets.enter Tryz.func132 z z ?_
 have ar : Sl Rep.u w (imm (Lg.O0 A)) v0_1 a0.Counts := (Sl.start hs0_1)
 have bS : Sl Rep.u w (imm (Lg.O0 A)) v1_1 a1.Counts := (Sl.start hs1_1)
 refine (show WC _ _ _ _ [(0, ag [vi a0.Offset, v0_1]), (1, ag [vi a1.Offset, v1_1])] _ from ?_)
 refine sq (rg ?_)
 have bT := h
 obtain ⟨T, U, V, rfl⟩ := ar.shape
 have h := bT
 refine WL.box (O := (Lg.O0 A)) 11 [vi a0.Offset, (vl T U V)] z z z ?_
 intro bM co cK r bU
 have au := bS.i r z z
 have bW := h
 obtain ⟨W, Z, aa, rfl⟩ := au.shape
 have h := bW
 refine WL.box (O := co) 12 [vi a1.Offset, (vl W Z aa)] z z z ?_
 intro bO cq cL o bX
 refine WL.alloc (O := cq) 13 [vi 0, sn] ty36 z z ?_
 intro an cr cM j ad
 refine wY (ya z) z (nl (th (sq (rg ?_))))
 have av := (bU.st o z).st j z
 refine wY (yL ty36 z z (av.cells 0 [vi a0.Offset, (vl T U V)] z) z) z ?_
 have ax := bX.st j z
 refine wY (yL ty36 z z (ax.cells 0 [vi a1.Offset, (vl W Z aa)] z) z) z ?_
 have ay := ((ar.i r z z).i o z z).i j z z
 have az := (au.i o z z).i j z z
 obtain ⟨⟨m, aA, cZ⟩, b2, h⟩ := bnd h
 refine WL.call (vals := [ag [vi a0.Offset, (vl T U V)], ag [vi a1.Offset, (vl W Z aa)]]) kok151 z z (c_ref09_reach (A := fun _ => True) (a0 := a0) (a1 := a1) (Sl.all ay) (Sl.all az) b2) ?_
 rintro cN cO ⟨rfl, b3⟩
 obtain ⟨aC, cs, ct, c⟩ := adoptE cr (fun k => 1) b3
 refine wY (ym z) z (wY (yx z z) z (wY (yx z z) z (wY (yx z z) z (wY (ya z) z (wY (ya z) z (wY (ya z) z (nl (th (sq ?_)))))))))
 refine sq (rg (wY (ym z) z (wY (Y.not z) z (nl (th ?_)))))
 rcases cnd h with ⟨ae, h⟩ | ⟨ae, h⟩
 ·refine WC.condT' z ae (sq (rg (wY (yb (vals := []) (cells := [vi 0, sn]) (fe_ z) (by kernel_rfl)) z ?_)))
  have b4 := ad.st c z
  refine WL.store (v := ag [vi 0, sn]) (cells' := [vi 0, sn]) ty36 z z b4 z (le_ z) z z ?_
  intro b5 aM b6
  refine wY (ya z) z (nl (th (rt (At.thenR ?_))))
  obtain ⟨rfl, rfl⟩ := tup2 h
  have b7 : Stp [13] (Lg.O0 A) w aC b5 := (tr_ (su_ r z) (tr_ (su_ o z) (tr_ (su_ j z) (tr_ (su_ c z) (su_ aM z)))))
  exact At.res (.inl z) z (.cell z (b6.runAg 0 [vi 0, sn] ty36 z z z) (.tmp z .nil)) ⟨sn, z, (se_ b7 z z), RowF.nil⟩
 ·refine WC.condF' z ae (sk (th (sq (sq (rg (wY (ym z) z (wY (ym z) z (wY (Y.sub_i z z) z (wY (Y.geq_i z z) z ?_)))))))))
  refine nl (th ?_)
  rcases cnd h with ⟨af, h⟩ | ⟨af, h⟩
  ·refine WC.condT' z af (sq (rg (wY (yb (vals := []) (cells := [vi 0, sn]) (fe_ z) (by kernel_rfl)) z ?_)))
   have b8 := ad.st c z
   refine WL.store (v := ag [vi 0, sn]) (cells' := [vi 0, sn]) ty36 z z b8 z (le_ z) z z ?_
   intro b9 aN ca
   refine wY (ya z) z (nl (th (rt (At.thenR ?_))))
   obtain ⟨rfl, rfl⟩ := tup2 h
   have cb : Stp [13] (Lg.O0 A) w aC b9 := (tr_ (su_ r z) (tr_ (su_ o z) (tr_ (su_ j z) (tr_ (su_ c z) (su_ aN z)))))
   exact At.res (.inl z) z (.cell z (ca.runAg 0 [vi 0, sn] ty36 z z z) (.tmp z .nil)) ⟨sn, z, (se_ cb z z), RowF.nil⟩
  ·refine WC.condF' z af (sk (th (sq (rg (wY (ym z) z (wY (yb (vals := [(0, vi m)]) (cells := [vi m, sn]) (fe_ z) (by kernel_rfl)) z (WL.alloc (O := aC) 14 [vi 0, sn] ty36 z z ?_)))))))
   intro G aD cP p cc
   refine WL.store (v := ag [vi m, sn]) (cells' := [vi m, sn]) ty36 z z cc z (le_ z) z z ?_
   intro aE q cd
   refine nl (th (sq (sq (rg (wY (ym z) z (wY (ya z) z (nl (th (WC.block ?_)))))))))
   obtain ⟨bP, h, ce⟩ := flow1 h
   obtain ⟨bQ, h⟩ := loop_some h
   refine WC.joinB 0 (σ := (List UInt64 × Own × Value)) (fun x w' => bP = .go x.1 ∧ Stp [14, 16, 1001] aD aE x.2.1 w' ∧ OwnSl 1002 Rep.u 33 x.2.1 w' x.2.2 x.1 ∧ Blk 14 x.2.1 w' G 36 [vi m, x.2.2]) (fun x => [(4, pt an 0), (9, pt G 0)]) ?_ ?_
   ·refine WC.loop (σ := (List UInt64 × Int × Own × Value)) (fun x k w' => loopN k (ref09_both_lp1 a0 a1 aA) (x.1, x.2.1) = some bP ∧ Stp [14, 16, 1001] aD aE x.2.2.1 w' ∧ OwnSl 1001 Rep.u 33 x.2.2.1 w' x.2.2.2 x.1 ∧ Blk 14 x.2.2.1 w' G 36 [vi m, x.2.2.2]) (fun x => [(2, pt bM 0), (3, pt bO 0), (4, pt an 0), (7, vi aA), (9, pt G 0), (10, vi x.2.1)]) ([], m, aD, sn) bQ (.cons z (.cons z (.cons z (.cons z (.cons z (.cons z .nil)))))) ⟨h, (sr_ _ _ _), (OwnSl.nil 1001 Rep.u 33), cd⟩ ?_
    rintro ⟨cu, aF, bR, cv⟩ bQ cQ ⟨h, l, ah, H⟩
    obtain ⟨cw, c0, rfl, h, aG⟩ := rnd1 h
    unfold ref09_both_lp1 at h
    try dsimp only at h l ah H
    refine (show WC _ _ _ _ [(2, pt bM 0), (3, pt bO 0), (4, pt an 0), (7, vi aA), (9, pt G 0), (10, vi aF)] _ from ?_)
    refine sq (sq (rg (wY (ym z) z (wY (ym z) z (wY (Y.leq_i z z) z (nl (th ?_)))))))
    rcases cnd h with ⟨ai, h⟩ | ⟨ai, h⟩
    ·refine WC.condT' z ai (sk (th (sq (WC.block (WC.drawH [1001] [0, 1, 2, 3, 4, 5, 6, 7, 8, 9, 10, 11] bR 13 fmix z (by kernel_rfl) ?_)))))
     intro cR d
     refine WD.y 0 z (by kernel_rfl) (fun _ _ _ => yf fo36_1 z) z (WD.y 1 z (by kernel_rfl) (fun cz cS aH => have aO := H.st d z; have aP := aO.st aH z; yl ty34 z z (aP.cell 1 _ z)) z (WD.y 2 z (by kernel_rfl) (fun cA cT aI => have aQ := av.st c z; have aR := aQ.st p z; have aS := aR.st q z; have aT := aS.st l z; have aU := aT.st d z; have aW := aU.st aI z; yL ty36 z z (aW.cells 0 [vi a0.Offset, (vl T U V)] z) z) z (WD.y 3 z (by kernel_rfl) (fun _ _ _ => ym z) z (WD.y 5 z (by kernel_rfl) (fun cC cU aJ => have aX := ax.st c z; have aY := aX.st p z; have aZ := aY.st q z; have a2 := aZ.st l z; have a3 := a2.st d z; have a4 := a3.st aJ z; yL ty36 z z (a4.cells 0 [vi a1.Offset, (vl W Z aa)] z) z) z (WD.y 6 z (by kernel_rfl) (fun _ _ _ => ym z) z (WD.heavy 4 z (by kernel_rfl) ?_))))))
     have a9 := ((((ay.i c z z).i p z z).i q z z).i l z z).i d z z
     obtain ⟨I, ba, h⟩ := bnd h
     refine WL.call (vals := [ag [vi a0.Offset, (vl T U V)], vi aF]) kok152 z z (c_ref09_At (A := fun _ => True) (a0 := a0) (Sl.all a9) ba) ?_
     rintro cD cE ⟨rfl, bb⟩
     obtain ⟨cf, ck, cl, n⟩ := adoptE bR (fun k => 1) bb
     refine nl (At.dq (su_ n z) (WD.heavy 7 z (by kernel_rfl) ?_))
     have bi := (((((az.i c z z).i p z z).i q z z).i l z z).i d z z).i n z z
     obtain ⟨J, bj, h⟩ := bnd h
     refine WL.call (vals := [ag [vi a1.Offset, (vl W Z aa)], vi aF]) kok152 z z (c_ref09_At (A := fun _ => True) (a0 := a1) (Sl.all bi) bj) ?_
     rintro cF cG ⟨rfl, bk⟩
     obtain ⟨cg, cm, cn, t⟩ := adoptE cf (fun k => 1) bk
     refine nl (At.dq (su_ t z) (WD.y 8 z (by kernel_rfl) (fun _ _ _ => Y.add_u z z) z (WD.heavy 9 z (by kernel_rfl) (WL.buildSlice (O := cg) (R := Rep.u) (vals := [(0, vu (I + J))]) 15 [vu (I + J)] (xs := [(I + J)]) (by decide) ty34 ty33 (by decide) (by decide) (fe_ z) (by kernel_rfl) z ⟨[vu (I + J)], [], z, z, z⟩ z ?_))))
     intro cV cW cH C bl
     refine nl (At.dq (su_ C z) (WD.heavy 10 z (by kernel_rfl) ?_))
     obtain ⟨bm, aK, h⟩ := bnd h
     have bq := (((ah.st d z z z).st n z z z).st t z z z).st C z z z
     refine WL.append (by decide) ty34 ty33 z (by decide) z z bq bl.src aK z ?_
     intro cX ch cI D ao
     refine nl (At.dq (su_ D z) (WD.y 11 z (by kernel_rfl) (fun _ _ _ => yf fo36_1 z) z (WD.phase [14] [0, 1, 2, 3, 4, 5, 6, 7, 8, 9, 10, 11, 12] (by kernel_rfl) (by kernel_rfl) (WD.heavy 12 z (by kernel_rfl) ?_))))
     have br := h
     obtain ⟨aj, ak, al, rfl⟩ := ao.shape
     have h := br
     have bx := ((((H.st d z).st n z).st t z).st C z).st D z
     refine WL.store (v := (vl aj ak al)) (cells' := [vi m, (vl aj ak al)]) ty34 z z bx z (le_ z) z z ?_
     intro cJ F bz
     refine nl (At.dq (su_ F z) (WD.done_ (by kernel_rfl) (At.inBlock (th (rg (wY (ym z) z (wY (Y.add_i z z) z ?_)))))))
     obtain ⟨ci, bA, h⟩ := lt1 h
     refine WL.yE (ya z) (congrArg vi bA.symm) z (nl ?_)
     have bB := ao.st F z z z
     exact At.round (bm, ci, ch, (vl aj ak al)) cw (Nat.lt_succ_self _) ⟨next1 h aG, (tr_ (su_ l z) (tr_ (su_ d z) (tr_ (su_ n z) (tr_ (su_ t z) (tr_ (su_ C z) (tr_ (su_ D z) (su_ F z))))))), bB, bz⟩ (.cons z (.cons z (.cons z (.cons z (.cons z (.cons z .nil))))))
    ·refine WC.condF' z ai (WC.exit (At.thenX (At.loopX ?_)))
     obtain ⟨cj, ab, bC⟩ := OwnSl.rlb 1002 rfl ah
     have bD := H.st ab z
     exact At.hitB (σ := (List UInt64 × Own × Value)) (cu, cj, cv) ⟨brk1 h aG, (tr_ (su_ l z) (su_ ab z)), bC, bD⟩ (.cons z (.cons z .nil))
   ·rintro ⟨c1, cx, cy⟩ cY ⟨rfl, K, am, aL⟩
    replace h := flowK_go ce
    try dsimp only at h K am aL
    refine (show At _ _ _ [(4, pt an 0), (9, pt G 0)] _ from ?_)
    refine At.inBlockHit (th (sq (rg (wY (yL ty36 z z (aL.cells 0 [vi m, cy] z) z) z ?_))))
    have bE := h
    obtain ⟨M, Q, S, rfl⟩ := am.shape
    have h := bE
    have bI := (((ad.st c z).st p z).st q z).st K z
    refine WL.store (v := ag [vi m, (vl M Q S)]) (cells' := [vi m, (vl M Q S)]) ty36 z z bI z (le_ z) z z ?_
    intro bJ ac bK
    refine wY (ya z) z (nl (th (rt ?_)))
    obtain ⟨rfl, rfl⟩ := tup2 h
    have ap : Stp [13, 14, 16, 1001] (Lg.O0 A) w cx bJ := (tr_ (su_ r z) (tr_ (su_ o z) (tr_ (su_ j z) (tr_ (su_ c z) (tr_ (su_ p z) (tr_ (su_ q z) (tr_ (su_ K z) (su_ ac z))))))))
    have bL := am.st ac z z z
    exact At.res (.inl z) z (.cell z (bK.runAg 0 [vi m, (vl M Q S)] ty36 z z z) (.tmp z .nil)) ⟨(vl M Q S), z, (se_ ap z z), (OwnSl.outF bL ap low0 z)⟩
theorem c_ref09_Merge {A : Nat → Prop} {v0_3 : Value} {v0_5 : Value} {a0 : api_Hist} {v1_3 : Value} {v1_5 : Value} {a1 : api_Hist} {w : World} (hs0_3 : Sl Rep.u w A v0_3 a0.Pos.Counts) (hs0_5 : Sl Rep.u w A v0_5 a0.Neg.Counts) (hs1_3 : Sl Rep.u w A v1_3 a1.Pos.Counts) (hs1_5 : Sl Rep.u w A v1_5 a1.Neg.Counts) {r0 : api_Hist} {r1 : Int} (h : ref09_Merge a0 a1 = some (r0, r1)) : Rets Tryz.prog 106 [ag (hl a0 v0_3 v0_5), ag (hl a1 v1_3 v1_5)] w (fun v w' => ∃ (aG : Value) (aH : Value), v = Value.tuple (List.toArray [ag (hl r0 aG aH), vi r1]) ∧ Ext w w' ∧ RowF Rep.u 33 w w' aG r0.Pos.Counts ∧ RowF Rep.u 33 w w' aH r0.Neg.Counts ∧ (∀ k, ob aG = some k → ob aH ≠ some k)) := by
 unfold ref09_Merge at h
 refine Rets.enter Tryz.func106 z z ?_
 have aX : Sl Rep.u w (imm (Lg.O0 A)) v0_3 a0.Pos.Counts := (Sl.start hs0_3)
 have aY : Sl Rep.u w (imm (Lg.O0 A)) v0_5 a0.Neg.Counts := (Sl.start hs0_5)
 have c8 : Sl Rep.u w (imm (Lg.O0 A)) v1_3 a1.Pos.Counts := (Sl.start hs1_3)
 have c9 : Sl Rep.u w (imm (Lg.O0 A)) v1_5 a1.Neg.Counts := (Sl.start hs1_5)
 refine (show WC _ _ _ _ [(0, ag (hl a0 v0_3 v0_5)), (1, ag (hl a1 v1_3 v1_5))] _ from ?_)
 refine sq (rg ?_)
 have da := h
 obtain ⟨aZ, a2, a3, rfl⟩ := aX.shape
 have h := da
 have db := h
 obtain ⟨a4, a5, a6, rfl⟩ := aY.shape
 have h := db
 refine WL.box (O := (Lg.O0 A)) 11 (hl a0 (vl aZ a2 a3) (vl a4 a5 a6)) z z z ?_
 intro ep dO ee F dc
 have a7 := c8.i F z z
 have dd := h
 obtain ⟨a8, a9, ba, rfl⟩ := a7.shape
 have h := dd
 have bb := c9.i F z z
 have de := h
 obtain ⟨bc, bd, bf, rfl⟩ := bb.shape
 have h := de
 refine WL.box (O := dO) 12 (hl a1 (vl a8 a9 ba) (vl bc bd bf)) z z z ?_
 intro er dP ef t df
 refine WL.alloc (O := dP) 13 hzr ty38 z z ?_
 intro c5 dQ eg n an
 refine wY (ya z) z (nl (th (sq (rg ?_))))
 have dh := (dc.st t z).st n z
 refine wY (yL ty38 z z (dh.cells 0 (hl a0 (vl aZ a2 a3) (vl a4 a5 a6)) z) z) z ?_
 have di := df.st n z
 refine wY (yL ty38 z z (di.cells 0 (hl a1 (vl a8 a9 ba) (vl bc bd bf)) z) z) z ?_
 have dl := ((aX.i F z z).i t z z).i n z z
 have dp := ((aY.i F z z).i t z z).i n z z
 have ds := (a7.i t z z).i n z z
 have du := (bb.i t z z).i n z z
 obtain ⟨c, dw, h⟩ := bnd h
 refine WL.call (vals := [ag (hl a0 (vl aZ a2 a3) (vl a4 a5 a6)), ag (hl a1 (vl a8 a9 ba) (vl bc bd bf))]) kok104 z z (c_ref09_Level (A := fun _ => True) (a0 := a0) (a1 := a1) (Sl.all dl) (Sl.all dp) (Sl.all ds) (Sl.all du) dw) ?_
 rintro eh ao ⟨aD, aI, bg, c6, rfl, dx, dR, dS, dT, dU, dV, dW, dX, dY, dZ, d0⟩
 obtain ⟨aE, d1, U, G⟩ := adoptE dQ (fun k => if ob aD = some k then 14 else if ob aI = some k then 15 else if ob bg = some k then 16 else if ob c6 = some k then 17 else 1) dx
 have dy : OwnSl 14 Rep.u 33 aE ao aD c.X.Pos.Counts := RowF.adopt 14 Flat.u dR U (fun k hk => if_pos hk)
 have dz : OwnSl 15 Rep.u 33 aE ao aI c.X.Neg.Counts := RowF.adopt 15 Flat.u dS U (fun k hk => (if_neg (fun (e : ob aD = some k) => dV k e hk)).trans (if_pos hk))
 have dA : OwnSl 16 Rep.u 33 aE ao bg c.Y.Pos.Counts := RowF.adopt 16 Flat.u dT U (fun k hk => (if_neg (fun (e : ob aD = some k) => dW k e hk)).trans ((if_neg (fun (e : ob aI = some k) => dX k e hk)).trans (if_pos hk)))
 have dB : OwnSl 17 Rep.u 33 aE ao c6 c.Y.Neg.Counts := RowF.adopt 17 Flat.u dU U (fun k hk => (if_neg (fun (e : ob aD = some k) => dY k e hk)).trans ((if_neg (fun (e : ob aI = some k) => dZ k e hk)).trans ((if_neg (fun (e : ob bg = some k) => d0 k e hk)).trans (if_pos hk))))
 refine WL.alloc (O := aE) 18 [vi 0, vu 0, vi 0, sn, vi 0, sn, vi 0, vu 0, vi 0, sn, vi 0, sn, vi 0] ty126 z z ?_
 intro c7 bh ei m dC
 have bi := dy.st m z z z
 have dD := h
 obtain ⟨aj, ak, al, rfl⟩ := bi.shape
 have h := dD
 have bj := dz.st m z z z
 have bw := h
 obtain ⟨am, V, W, rfl⟩ := bj.shape
 have h := bw
 have aJ := dA.st m z z z
 have bx := h
 obtain ⟨Z, aa, ab, rfl⟩ := aJ.shape
 have h := bx
 have aK := dB.st m z z z
 have bz := h
 obtain ⟨ac, ad, ae, rfl⟩ := aK.shape
 have h := bz
 refine WL.store (v := ag [vi c.X.Scale, vu c.X.Zero, vi c.X.Pos.Offset, (vl aj ak al), vi c.X.Neg.Offset, (vl am V W), vi c.Y.Scale, vu c.Y.Zero, vi c.Y.Pos.Offset, (vl Z aa ab), vi c.Y.Neg.Offset, (vl ac ad ae), vi c.E]) (cells' := [vi c.X.Scale, vu c.X.Zero, vi c.X.Pos.Offset, (vl aj ak al), vi c.X.Neg.Offset, (vl am V W), vi c.Y.Scale, vu c.Y.Zero, vi c.Y.Pos.Offset, (vl Z aa ab), vi c.Y.Neg.Offset, (vl ac ad ae), vi c.E]) ty126 z z dC z (le_ z) z z ?_
 intro d2 d af
 refine nl (th (sq (sq (rg (wY (yf fo126_2 z) z (wY (yl ty25 z z (af.cell 12 _ z)) z (wY (Y.neq_i z z) z (nl (th ?_)))))))))
 rcases cnd h with ⟨ap, h⟩ | ⟨ap, h⟩
 ·refine WC.condT' z ap (sq (WC.drawH [13] [0, 1, 2, 3, 4] bh 5 fmix z (by kernel_rfl) ?_))
  intro d3 ah
  refine WD.y 0 z (by kernel_rfl) (fun _ _ _ => yb (vals := []) (cells := hzr) (fe_ z) (by kernel_rfl)) z (WD.y 1 z (by kernel_rfl) (fun _ _ _ => yf fo126_2 z) z (WD.y 2 z (by kernel_rfl) (fun d4 ej bk => have bA := af.st ah z; have bB := bA.st bk z; yl ty25 z z (bB.cell 12 _ z)) z (WD.heavy 3 z (by kernel_rfl) ?_)))
  have bF := (((an.st G z).st m z).st d z).st ah z
  refine WL.store (v := ag hzr) (cells' := hzr) ty38 z z bF z (le_ z) z z ?_
  intro bG aF bH
  refine nl (At.dq (su_ aF z) (WD.y 4 z (by kernel_rfl) (fun _ _ _ => ya z) z (WD.done_ (by kernel_rfl) (th (rt (At.thenR ?_))))))
  obtain ⟨rfl, rfl⟩ := tup2 h
  have bI : Stp [13, 18] (Lg.O0 A) w bh bG := (tr_ (su_ F z) (tr_ (su_ t z) (tr_ (su_ n z) (tr_ (su_ G z) (tr_ (su_ m z) (tr_ (su_ d z) (tr_ (su_ ah z) (su_ aF z))))))))
  exact At.res (.inl z) z (.cell z (bH.runAg 0 hzr ty38 z z z) (.tmp z .nil)) ⟨sn, sn, z, (se_ bI z z), RowF.nil, RowF.nil, (fun _ e => absurd e not_nil)⟩
 ·refine WC.condF' z ap (sk (th (sq (rg (wY (yf fo126_0 z) z (wY (yL ty38 z z (af.cells 0 [vi c.X.Scale, vu c.X.Zero, vi c.X.Pos.Offset, (vl aj ak al), vi c.X.Neg.Offset, (vl am V W)] z) z) z ?_))))))
  have aL := bi.st d z z z
  have aM := bj.st d z z z
  obtain ⟨⟨ek, em⟩, bJ, h⟩ := bnd h
  refine WL.call (vals := [ag [vi c.X.Scale, vu c.X.Zero, vi c.X.Pos.Offset, (vl aj ak al), vi c.X.Neg.Offset, (vl am V W)]]) kok97 z z (c_ref08_Total (A := fun _ => True) (a0 := c.X) (aL.src.sl) (aM.src.sl) bJ) ?_
  rintro d5 d6 ⟨rfl, bK⟩
  obtain ⟨dE, dI, dJ, j⟩ := adoptE bh (fun k => 1) bK
  refine wY (ym z) z (wY (yx z z) z (wY (yx z z) z (wY (ya z) z (wY (ya z) z (nl (th (sq (rg (wY (yf fo126_1 z) z ?_)))))))))
  have aN := af.st j z
  refine wY (yL ty38 z z (aN.cells 6 [vi c.Y.Scale, vu c.Y.Zero, vi c.Y.Pos.Offset, (vl Z aa ab), vi c.Y.Neg.Offset, (vl ac ad ae)] z) z) z ?_
  have aO := (aJ.st d z z z).st j z z z
  have aP := (aK.st d z z z).st j z z z
  obtain ⟨⟨en, eo⟩, bO, h⟩ := bnd h
  refine WL.call (vals := [ag [vi c.Y.Scale, vu c.Y.Zero, vi c.Y.Pos.Offset, (vl Z aa ab), vi c.Y.Neg.Offset, (vl ac ad ae)]]) kok97 z z (c_ref08_Total (A := fun _ => True) (a0 := c.Y) (aO.src.sl) (aP.src.sl) bO) ?_
  rintro d7 d8 ⟨rfl, bP⟩
  obtain ⟨bl, dK, dL, l⟩ := adoptE dE (fun k => 1) bP
  refine wY (ym z) z (wY (yx z z) z (wY (yx z z) z (wY (ya z) z (wY (ya z) z (nl (th (sq (sq (rg ?_)))))))))
  refine wY (ym z) z (wY (ym z) z (wY (Y.sub_u (a := 18446744073709551615) z z) z (wY (Y.gtr_u z z) z (nl (th ?_)))))
  rcases cnd h with ⟨aq, h⟩ | ⟨aq, h⟩
  ·refine WC.condT' z aq (sq (rg (wY (yb (vals := []) (cells := hzr) (fe_ z) (by kernel_rfl)) z ?_)))
   have bU := ((((an.st G z).st m z).st d z).st j z).st l z
   refine WL.store (v := ag hzr) (cells' := hzr) ty38 z z bU z (le_ z) z z ?_
   intro bW bm bX
   refine wY (ya z) z (nl (th (rt (At.thenR ?_))))
   obtain ⟨rfl, rfl⟩ := tup2 h
   have bY : Stp [13, 18] (Lg.O0 A) w bl bW := (tr_ (su_ F z) (tr_ (su_ t z) (tr_ (su_ n z) (tr_ (su_ G z) (tr_ (su_ m z) (tr_ (su_ d z) (tr_ (su_ j z) (tr_ (su_ l z) (su_ bm z)))))))))
   exact At.res (.inl z) z (.cell z (bX.runAg 0 hzr ty38 z z z) (.tmp z .nil)) ⟨sn, sn, z, (se_ bY z z), RowF.nil, RowF.nil, (fun _ e => absurd e not_nil)⟩
  ·refine WC.condF' z aq (sk (th (sq (rg (wY (yf fo126_0 z) z (wY (yf fo38_2 z) z ?_))))))
   have ar := aN.st l z
   refine wY (yL ty36 z z (ar.cells 2 [vi c.X.Pos.Offset, (vl aj ak al)] z) z) z (wY (yf fo126_1 z) z (wY (yf fo38_2 z) z (wY (yL ty36 z z (ar.cells 8 [vi c.Y.Pos.Offset, (vl Z aa ab)] z) z) z ?_)))
   have b0 := (aL.st j z z z).st l z z z
   have b1 := aO.st l z z z
   obtain ⟨⟨H, au⟩, b2, h⟩ := bnd h
   refine WL.call (vals := [ag [vi c.X.Pos.Offset, (vl aj ak al)], ag [vi c.Y.Pos.Offset, (vl Z aa ab)]]) kok132 z z (c_ref09_both (A := fun _ => True) (a0 := c.X.Pos) (a1 := c.Y.Pos) (b0.src.sl) (b1.src.sl) b2) ?_
   rintro d9 b3 ⟨bn, rfl, b4, dF⟩
   obtain ⟨bo, dM, aU, C⟩ := adoptE bl (fun k => if ob bn = some k then 19 else 1) b4
   have b5 : OwnSl 19 Rep.u 33 bo b3 bn H.Counts := RowF.adopt 19 Flat.u dF aU (fun k hk => if_pos hk)
   refine wY (ym z) z (wY (yx z z) z (wY (yx z z) z (WL.alloc (O := bo) 20 [vi 0, sn] ty36 z z ?_)))
   intro bp dG ea o b6
   have aQ := b5.st o z z z
   have b7 := h
   obtain ⟨I, J, K, rfl⟩ := aQ.shape
   have h := b7
   refine WL.store (v := ag [vi H.Offset, (vl I J K)]) (cells' := [vi H.Offset, (vl I J K)]) ty36 z z b6 z (le_ z) z z ?_
   intro eb p b8
   refine wY (ya z) z (nl (th (sq (rg (wY (yf fo126_0 z) z (wY (yf fo38_3 z) z ?_))))))
   have av := ((ar.st C z).st o z).st p z
   refine wY (yL ty36 z z (av.cells 4 [vi c.X.Neg.Offset, (vl am V W)] z) z) z (wY (yf fo126_1 z) z (wY (yf fo38_3 z) z (wY (yL ty36 z z (av.cells 10 [vi c.Y.Neg.Offset, (vl ac ad ae)] z) z) z ?_)))
   have cf := ((((aM.st j z z z).st l z z z).st C z z z).st o z z z).st p z z z
   have cj := (((aP.st l z z z).st C z z z).st o z z z).st p z z z
   obtain ⟨⟨M, ax⟩, ck, h⟩ := bnd h
   refine WL.call (vals := [ag [vi c.X.Neg.Offset, (vl am V W)], ag [vi c.Y.Neg.Offset, (vl ac ad ae)]]) kok132 z z (c_ref09_both (A := fun _ => True) (a0 := c.X.Neg) (a1 := c.Y.Neg) (cf.src.sl) (cj.src.sl) ck) ?_
   rintro ec cl ⟨bq, rfl, cm, dH⟩
   obtain ⟨br, dN, aW, D⟩ := adoptE dG (fun k => if ob bq = some k then 21 else 1) cm
   have cn : OwnSl 21 Rep.u 33 br cl bq M.Counts := RowF.adopt 21 Flat.u dH aW (fun k hk => if_pos hk)
   refine wY (ym z) z (wY (yx z z) z (wY (yx z z) z (WL.alloc (O := br) 22 [vi 0, sn] ty36 z z ?_)))
   intro bs bt ed q co
   have aR := cn.st q z z z
   have cq := h
   obtain ⟨Q, S, T, rfl⟩ := aR.shape
   have h := cq
   refine WL.store (v := ag [vi M.Offset, (vl Q S T)]) (cells' := [vi M.Offset, (vl Q S T)]) ty36 z z co z (le_ z) z z ?_
   intro cr r cs
   refine wY (ya z) z (nl (th (sq (sq (rg (wY (ym z) z (wY (Y.not z) z (wY (ym z) z ?_))))))))
   refine WL.cut 3 (σ := Unit) (fun _ w' => cr = w') (fun _ => [(4, pt c5 0), (6, pt c7 0), (11, pt bp 0), (13, pt bs 0), (66, vB ((!au) || (!ax)))]) ?_ ?_
   ·refine WL.part 63 z (fun ay => ?_) (fun ay => ?_)
    ·refine WL.gS z z z z (WL.gS z z z z (wY (Y.pick (b := true) z z) z (WL.ren (v' := vB ((!au) || (!ax))) 66 z (congrArg vB (orT ay)) ?_)))
     exact nl (At.join () z (.cons z (.cons z (.cons z (.cons z (.cons z .nil))))))
    ·refine ug z z (wY (ym z) z (ug z z (wY (Y.not z) z (wY (Y.pick (b := false) z z) z (WL.ren (v' := vB ((!au) || (!ax))) 66 z (congrArg vB (orF ay)) ?_)))))
     exact nl (At.join () z (.cons z (.cons z (.cons z (.cons z (.cons z .nil))))))
   ·rintro _ _ rfl
    refine (show WL _ _ _ _ _ [(4, pt c5 0), (6, pt c7 0), (11, pt bp 0), (13, pt bs 0), (66, vB ((!au) || (!ax)))] _ from ?_)
    refine nl (th ?_)
    rcases cnd h with ⟨az, h⟩ | ⟨az, h⟩
    ·refine WC.condT' z az (sq (rg (wY (yb (vals := []) (cells := hzr) (fe_ z) (by kernel_rfl)) z ?_)))
     have cE := ((((((((((an.st G z).st m z).st d z).st j z).st l z).st C z).st o z).st p z).st D z).st q z).st r z
     refine WL.store (v := ag hzr) (cells' := hzr) ty38 z z cE z (le_ z) z z ?_
     intro cF bu cG
     refine wY (ya z) z (nl (th (rt (At.thenR ?_))))
     obtain ⟨rfl, rfl⟩ := tup2 h
     have cH : Stp [13, 18, 20, 22] (Lg.O0 A) w bt cF := (tr_ (su_ F z) (tr_ (su_ t z) (tr_ (su_ n z) (tr_ (su_ G z) (tr_ (su_ m z) (tr_ (su_ d z) (tr_ (su_ j z) (tr_ (su_ l z) (tr_ (su_ C z) (tr_ (su_ o z) (tr_ (su_ p z) (tr_ (su_ D z) (tr_ (su_ q z) (tr_ (su_ r z) (su_ bu z)))))))))))))))
     exact At.res (.inl z) z (.cell z (cG.runAg 0 hzr ty38 z z z) (.tmp z .nil)) ⟨sn, sn, z, (se_ cH z z), RowF.nil, RowF.nil, (fun _ e => absurd e not_nil)⟩
    ·refine WC.condF' z az (sk (th (sq (rg (wY (yf fo126_0 z) z (wY (yf fo38_0 z) z ?_))))))
     have aA := ((av.st D z).st q z).st r z
     refine wY (yl ty3 z z (aA.cell 0 _ z)) z (wY (yf fo126_0 z) z (wY (yf fo38_1 z) z (wY (yl ty33 z z (aA.cell 1 _ z)) z (wY (yf fo126_1 z) z (wY (yf fo38_1 z) z (wY (yl ty33 z z (aA.cell 7 _ z)) z (wY (Y.add_u z z) z ?_)))))))
     have cM := ((b8.st D z).st q z).st r z
     refine wY (yL ty36 z z (cM.cells 0 [vi H.Offset, (vl I J K)] z) z) z (wY (yL ty36 z z (cs.cells 0 [vi M.Offset, (vl Q S T)] z) z) z (wY (yb (vals := [(0, vi c.X.Scale), (1, vu (c.X.Zero + c.Y.Zero)), (2, ag [vi H.Offset, (vl I J K)]), (3, ag [vi M.Offset, (vl Q S T)])]) (cells := [vi c.X.Scale, vu (c.X.Zero + c.Y.Zero), vi H.Offset, (vl I J K), vi M.Offset, (vl Q S T)]) (fe_ z) (by kernel_rfl)) z ?_))
     have cX := ((((((((((an.st G z).st m z).st d z).st j z).st l z).st C z).st o z).st p z).st D z).st q z).st r z
     refine WL.store (v := ag [vi c.X.Scale, vu (c.X.Zero + c.Y.Zero), vi H.Offset, (vl I J K), vi M.Offset, (vl Q S T)]) (cells' := [vi c.X.Scale, vu (c.X.Zero + c.Y.Zero), vi H.Offset, (vl I J K), vi M.Offset, (vl Q S T)]) ty38 z z cX z (le_ z) z z ?_
     intro cY ai cZ
     refine wY (ya z) z (nl (th (rt ?_)))
     obtain ⟨rfl, rfl⟩ := tup2 h
     have aC : Stp [13, 18, 20, 22] (Lg.O0 A) w bt cY := (tr_ (su_ F z) (tr_ (su_ t z) (tr_ (su_ n z) (tr_ (su_ G z) (tr_ (su_ m z) (tr_ (su_ d z) (tr_ (su_ j z) (tr_ (su_ l z) (tr_ (su_ C z) (tr_ (su_ o z) (tr_ (su_ p z) (tr_ (su_ D z) (tr_ (su_ q z) (tr_ (su_ r z) (su_ ai z)))))))))))))))
     have aS := ((((aQ.st p z z z).st D z z z).st q z z z).st r z z z).st ai z z z
     have aT := (aR.st r z z z).st ai z z z
     exact At.res (.inl z) z (.cell z (cZ.runAg 0 [vi c.X.Scale, vu (c.X.Zero + c.Y.Zero), vi H.Offset, (vl I J K), vi M.Offset, (vl Q S T)] ty38 z z z) (.tmp z .nil)) ⟨(vl I J K), (vl Q S T), z, (se_ aC z z), (OwnSl.outF aS aC low0 z), (OwnSl.outF aT aC low0 z), (ne_own aS aT z)⟩
theorem c_ref16_Together {A : Nat → Prop} {v0_3 : Value} {v0_5 : Value} {a0 : api_Hist} {v1_3 : Value} {v1_5 : Value} {a1 : api_Hist} {a2 : Int} {w : World} (hs0_3 : Sl Rep.u w A v0_3 a0.Pos.Counts) (hs0_5 : Sl Rep.u w A v0_5 a0.Neg.Counts) (hs1_3 : Sl Rep.u w A v1_3 a1.Pos.Counts) (hs1_5 : Sl Rep.u w A v1_5 a1.Neg.Counts) {r0 : api_Hist} {r1 : Bool} (h : ref16_Together a0 a1 a2 = some (r0, r1)) : Rets Tryz.prog 61 [ag (hl a0 v0_3 v0_5), ag (hl a1 v1_3 v1_5), vi a2] w (fun v w' => ∃ (a5 : Value) (a6 : Value), v = Value.tuple (List.toArray [ag (hl r0 a5 a6), vB r1]) ∧ Ext w w' ∧ RowF Rep.u 33 w w' a5 r0.Pos.Counts ∧ RowF Rep.u 33 w w' a6 r0.Neg.Counts ∧ (∀ k, ob a5 = some k → ob a6 ≠ some k)) := by
 unfold ref16_Together at h
 refine Rets.enter Tryz.func61 z z ?_
 have bB : Sl Rep.u w (imm (Lg.O0 A)) v0_3 a0.Pos.Counts := (Sl.start hs0_3)
 have bC : Sl Rep.u w (imm (Lg.O0 A)) v0_5 a0.Neg.Counts := (Sl.start hs0_5)
 have dR : Sl Rep.u w (imm (Lg.O0 A)) v1_3 a1.Pos.Counts := (Sl.start hs1_3)
 have dS : Sl Rep.u w (imm (Lg.O0 A)) v1_5 a1.Neg.Counts := (Sl.start hs1_5)
 refine (show WC _ _ _ _ [(0, ag (hl a0 v0_3 v0_5)), (1, ag (hl a1 v1_3 v1_5)), (2, vi a2)] _ from ?_)
 refine sq (rg ?_)
 have dT := h
 obtain ⟨bD, bE, bF, rfl⟩ := bB.shape
 have h := dT
 have dU := h
 obtain ⟨bG, bH, bI, rfl⟩ := bC.shape
 have h := dU
 refine WL.box (O := (Lg.O0 A)) 11 (hl a0 (vl bD bE bF) (vl bG bH bI)) z z z ?_
 intro ff eE e2 H dV
 have bJ := dR.i H z z
 have dW := h
 obtain ⟨bK, bL, bM, rfl⟩ := bJ.shape
 have h := dW
 have bO := dS.i H z z
 have dX := h
 obtain ⟨bP, bQ, bR, rfl⟩ := bO.shape
 have h := dX
 refine WL.box (O := eE) 12 (hl a1 (vl bK bL bM) (vl bP bQ bR)) z z z ?_
 intro fg eF e5 F dY
 refine WL.alloc (O := eF) 13 hzr ty38 z z ?_
 intro ac eG e6 t ak
 refine wY (ya z) z (nl (th (sq (rg ?_))))
 have d0 := (dV.st F z).st t z
 refine wY (yL ty38 z z (d0.cells 0 (hl a0 (vl bD bE bF) (vl bG bH bI)) z) z) z ?_
 have d1 := dY.st t z
 refine wY (yL ty38 z z (d1.cells 0 (hl a1 (vl bK bL bM) (vl bP bQ bR)) z) z) z ?_
 have d4 := ((bB.i H z z).i F z z).i t z z
 have d7 := ((bC.i H z z).i F z z).i t z z
 have d9 := (bJ.i F z z).i t z z
 have eb := (bO.i F z z).i t z z
 obtain ⟨c, ec, h⟩ := bnd h
 refine WL.call (vals := [ag (hl a0 (vl bD bE bF) (vl bG bH bI)), ag (hl a1 (vl bK bL bM) (vl bP bQ bR))]) kok104 z z (c_ref09_Level (A := fun _ => True) (a0 := a0) (a1 := a1) (Sl.all d4) (Sl.all d7) (Sl.all d9) (Sl.all eb) ec) ?_
 rintro e7 al ⟨aZ, bf, bS, dQ, rfl, ed, eH, eI, eJ, eK, eL, eM, eN, eO, eP, eQ⟩
 obtain ⟨a3, eR, ab, I⟩ := adoptE eG (fun k => if ob aZ = some k then 14 else if ob bf = some k then 15 else if ob bS = some k then 16 else if ob dQ = some k then 17 else 1) ed
 have ee : OwnSl 14 Rep.u 33 a3 al aZ c.X.Pos.Counts := RowF.adopt 14 Flat.u eH ab (fun k hk => if_pos hk)
 have ef : OwnSl 15 Rep.u 33 a3 al bf c.X.Neg.Counts := RowF.adopt 15 Flat.u eI ab (fun k hk => (if_neg (fun (e : ob aZ = some k) => eL k e hk)).trans (if_pos hk))
 have eg : OwnSl 16 Rep.u 33 a3 al bS c.Y.Pos.Counts := RowF.adopt 16 Flat.u eJ ab (fun k hk => (if_neg (fun (e : ob aZ = some k) => eM k e hk)).trans ((if_neg (fun (e : ob bf = some k) => eN k e hk)).trans (if_pos hk)))
 have eh : OwnSl 17 Rep.u 33 a3 al dQ c.Y.Neg.Counts := RowF.adopt 17 Flat.u eK ab (fun k hk => (if_neg (fun (e : ob aZ = some k) => eO k e hk)).trans ((if_neg (fun (e : ob bf = some k) => eP k e hk)).trans ((if_neg (fun (e : ob bS = some k) => eQ k e hk)).trans (if_pos hk))))
 refine WL.alloc (O := a3) 18 [vi 0, vu 0, vi 0, sn, vi 0, sn, vi 0, vu 0, vi 0, sn, vi 0, sn, vi 0] ty126 z z ?_
 intro af bg e8 q ei
 have bT := ee.st q z z z
 have ej := h
 obtain ⟨bh, bi, bj, rfl⟩ := bT.shape
 have h := ej
 have bU := ef.st q z z z
 have b5 := h
 obtain ⟨bk, am, an, rfl⟩ := bU.shape
 have h := b5
 have bl := eg.st q z z z
 have b6 := h
 obtain ⟨ao, ap, aq, rfl⟩ := bl.shape
 have h := b6
 have bm := eh.st q z z z
 have b7 := h
 obtain ⟨ar, au, av, rfl⟩ := bm.shape
 have h := b7
 refine WL.store (v := ag [vi c.X.Scale, vu c.X.Zero, vi c.X.Pos.Offset, (vl bh bi bj), vi c.X.Neg.Offset, (vl bk am an), vi c.Y.Scale, vu c.Y.Zero, vi c.Y.Pos.Offset, (vl ao ap aq), vi c.Y.Neg.Offset, (vl ar au av), vi c.E]) (cells' := [vi c.X.Scale, vu c.X.Zero, vi c.X.Pos.Offset, (vl bh bi bj), vi c.X.Neg.Offset, (vl bk am an), vi c.Y.Scale, vu c.Y.Zero, vi c.Y.Pos.Offset, (vl ao ap aq), vi c.Y.Neg.Offset, (vl ar au av), vi c.E]) ty126 z z ei z (le_ z) z z ?_
 intro bn j ax
 refine nl (th (sq (sq (rg (wY (yf fo126_2 z) z (wY (yl ty25 z z (ax.cell 12 _ z)) z (wY (Y.neq_i z z) z (nl (th ?_)))))))))
 rcases cnd h with ⟨ay, h⟩ | ⟨ay, h⟩
 ·refine WC.condT' z ay (sq (rg (wY (yb (vals := []) (cells := hzr) (fe_ z) (by kernel_rfl)) z ?_)))
  have ca := ((ak.st I z).st q z).st j z
  refine WL.store (v := ag hzr) (cells' := hzr) ty38 z z ca z (le_ z) z z ?_
  intro cb bW cc
  refine wY (ya z) z (nl (th (rt (At.thenR ?_))))
  obtain ⟨rfl, rfl⟩ := tup2 h
  have cd : Stp [13, 18] (Lg.O0 A) w bg cb := (tr_ (su_ H z) (tr_ (su_ F z) (tr_ (su_ t z) (tr_ (su_ I z) (tr_ (su_ q z) (tr_ (su_ j z) (su_ bW z)))))))
  exact At.res (.inl z) z (.cell z (cc.runAg 0 hzr ty38 z z z) (.tmp z .nil)) ⟨sn, sn, z, (se_ cd z z), RowF.nil, RowF.nil, (fun _ e => absurd e not_nil)⟩
 ·refine WC.condF' z ay (sk (th (sq (sq (rg (wY (yf fo126_0 z) z (wY (yf fo38_0 z) z (wY (yl ty3 z z (ax.cell 0 _ z)) z (wY (ya z) z ?_)))))))))
  refine nl (th (WC.block ?_))
  obtain ⟨bX, h, az⟩ := flow1 h
  obtain ⟨bY, h⟩ := loop_some h
  refine WC.joinB 0 (σ := Own) (fun x w' => bX = .go () ∧ Stp [21, 24, 27] bg bn x w') (fun x => [(6, pt ac 0)]) ?_ ?_
  ·refine WC.loop (σ := (Int × Own)) (fun x k w' => loopN k (ref16_Together_lp1 a2 c) x.1 = some bX ∧ Stp [21, 24, 27] bg bn x.2 w') (fun x => [(2, vi a2), (6, pt ac 0), (8, pt af 0), (9, vi x.1)]) (c.X.Scale, bg) bY (.cons z (.cons z (.cons z (.cons z .nil)))) ⟨h, (sr_ _ _ _)⟩ ?_
   rintro ⟨M, bZ⟩ bY eS ⟨h, l⟩
   obtain ⟨ek, e9, rfl, h, ad⟩ := rnd1 h
   unfold ref16_Together_lp1 at h
   try dsimp only at h l
   refine (show WC _ _ _ _ [(2, vi a2), (6, pt ac 0), (8, pt af 0), (9, vi M)] _ from ?_)
   refine sq (sq (rg (wY (ym z) z (wY (Y.geq_i z z) z (nl (th ?_))))))
   rcases cnd h with ⟨aA, h⟩ | ⟨aA, h⟩
   ·refine WC.condT' z aA (sk (th (sq (WC.block (sq (rg (wY (yf fo126_0 z) z ?_)))))))
    have aC := ax.st l z
    refine wY (yL ty38 z z (aC.cells 0 [vi c.X.Scale, vu c.X.Zero, vi c.X.Pos.Offset, (vl bh bi bj), vi c.X.Neg.Offset, (vl bk am an)] z) z) z (wY (yf fo126_0 z) z (wY (yf fo38_0 z) z (wY (yl ty3 z z (aC.cell 0 _ z)) z (wY (ym z) z (wY (Y.sub_i z z) z ?_)))))
    have cf := (bT.st j z z z).st l z z z
    have ch := (bU.st j z z z).st l z z z
    obtain ⟨⟨Q, fa⟩, ci, h⟩ := bnd h
    refine WL.call (vals := [ag [vi c.X.Scale, vu c.X.Zero, vi c.X.Pos.Offset, (vl bh bi bj), vi c.X.Neg.Offset, (vl bk am an)], vi (w64 (c.X.Scale - M))]) kok105 z z (c_ref08_Down (A := fun _ => True) (a0 := c.X) (cf.src.sl) (ch.src.sl) ci) ?_
    rintro eT bo ⟨a7, b0, rfl, cj, em, en, eo⟩
    obtain ⟨a8, eB, ah, C⟩ := adoptE bZ (fun k => if ob a7 = some k then 19 else if ob b0 = some k then 20 else 1) cj
    have ck : OwnSl 19 Rep.u 33 a8 bo a7 Q.Pos.Counts := RowF.adopt 19 Flat.u em ah (fun k hk => if_pos hk)
    have cl : OwnSl 20 Rep.u 33 a8 bo b0 Q.Neg.Counts := RowF.adopt 20 Flat.u en ah (fun k hk => (if_neg (fun (e : ob a7 = some k) => eo k e hk)).trans (if_pos hk))
    refine wY (ym z) z (wY (yx z z) z (wY (yx z z) z (WL.alloc (O := a8) 21 hzr ty38 z z ?_)))
    intro fc ep eU m cm
    have bp := ck.st m z z z
    have cn := h
    obtain ⟨aD, aE, aF, rfl⟩ := bp.shape
    have h := cn
    have bq := cl.st m z z z
    have co := h
    obtain ⟨aG, aH, aI, rfl⟩ := bq.shape
    have h := co
    refine WL.store (v := ag (hl Q (vl aD aE aF) (vl aG aH aI))) (cells' := (hl Q (vl aD aE aF) (vl aG aH aI))) ty38 z z cm z (le_ z) z z ?_
    intro eV n cq
    refine wY (ya z) z (nl (th (sq (rg (wY (yf fo126_1 z) z ?_)))))
    have br := ((aC.st C z).st m z).st n z
    refine wY (yL ty38 z z (br.cells 6 [vi c.Y.Scale, vu c.Y.Zero, vi c.Y.Pos.Offset, (vl ao ap aq), vi c.Y.Neg.Offset, (vl ar au av)] z) z) z (wY (yf fo126_0 z) z (wY (yf fo38_0 z) z (wY (yl ty3 z z (br.cell 0 _ z)) z (wY (ym z) z (wY (Y.sub_i z z) z ?_)))))
    have cx := ((((bl.st j z z z).st l z z z).st C z z z).st m z z z).st n z z z
    have cD := ((((bm.st j z z z).st l z z z).st C z z z).st m z z z).st n z z z
    obtain ⟨⟨S, fd⟩, cE, h⟩ := bnd h
    refine WL.call (vals := [ag [vi c.Y.Scale, vu c.Y.Zero, vi c.Y.Pos.Offset, (vl ao ap aq), vi c.Y.Neg.Offset, (vl ar au av)], vi (w64 (c.X.Scale - M))]) kok105 z z (c_ref08_Down (A := fun _ => True) (a0 := c.Y) (cx.src.sl) (cD.src.sl) cE) ?_
    rintro eW bs ⟨a9, b1, rfl, cF, er, es, et⟩
    obtain ⟨ba, eC, ai, D⟩ := adoptE ep (fun k => if ob a9 = some k then 22 else if ob b1 = some k then 23 else 1) cF
    have cG : OwnSl 22 Rep.u 33 ba bs a9 S.Pos.Counts := RowF.adopt 22 Flat.u er ai (fun k hk => if_pos hk)
    have cH : OwnSl 23 Rep.u 33 ba bs b1 S.Neg.Counts := RowF.adopt 23 Flat.u es ai (fun k hk => (if_neg (fun (e : ob a9 = some k) => et k e hk)).trans (if_pos hk))
    refine wY (ym z) z (wY (yx z z) z (wY (yx z z) z (WL.alloc (O := ba) 24 hzr ty38 z z ?_)))
    intro fe eu eX o cI
    have bt := cG.st o z z z
    have cJ := h
    obtain ⟨aJ, aK, aL, rfl⟩ := bt.shape
    have h := cJ
    have bu := cH.st o z z z
    have cK := h
    obtain ⟨aM, aN, aO, rfl⟩ := bu.shape
    have h := cK
    refine WL.store (v := ag (hl S (vl aJ aK aL) (vl aM aN aO))) (cells' := (hl S (vl aJ aK aL) (vl aM aN aO))) ty38 z z cI z (le_ z) z z ?_
    intro eY p cL
    refine wY (ya z) z (nl (th (sq (rg ?_))))
    have cO := ((cq.st D z).st o z).st p z
    refine wY (yL ty38 z z (cO.cells 0 (hl Q (vl aD aE aF) (vl aG aH aI)) z) z) z (wY (yL ty38 z z (cL.cells 0 (hl S (vl aJ aK aL) (vl aM aN aO)) z) z) z ?_)
    have cS := (((bp.st n z z z).st D z z z).st o z z z).st p z z z
    have cW := (((bq.st n z z z).st D z z z).st o z z z).st p z z z
    have cX := bt.st p z z z
    have cY := bu.st p z z z
    obtain ⟨⟨d, J⟩, cZ, h⟩ := bnd h
    refine WL.call (vals := [ag (hl Q (vl aD aE aF) (vl aG aH aI)), ag (hl S (vl aJ aK aL) (vl aM aN aO))]) kok106 z z (c_ref09_Merge (A := fun _ => True) (a0 := Q) (a1 := S) (cS.src.sl) (cW.src.sl) (cX.src.sl) (cY.src.sl) cZ) ?_
    rintro eZ bw ⟨bb, b2, rfl, c0, ew, ex, ey⟩
    obtain ⟨bc, eD, aj, K⟩ := adoptE eu (fun k => if ob bb = some k then 25 else if ob b2 = some k then 26 else 1) c0
    have c1 : OwnSl 25 Rep.u 33 bc bw bb d.Pos.Counts := RowF.adopt 25 Flat.u ew aj (fun k hk => if_pos hk)
    have c2 : OwnSl 26 Rep.u 33 bc bw b2 d.Neg.Counts := RowF.adopt 26 Flat.u ex aj (fun k hk => (if_neg (fun (e : ob bb = some k) => ey k e hk)).trans (if_pos hk))
    refine wY (ym z) z (wY (yx z z) z (wY (yx z z) z (WL.alloc (O := bc) 27 hzr ty38 z z ?_)))
    intro aP bd e0 G c3
    have aQ := c1.st G z z z
    have c4 := h
    obtain ⟨T, U, V, rfl⟩ := aQ.shape
    have h := c4
    have aR := c2.st G z z z
    have c5 := h
    obtain ⟨W, Z, aa, rfl⟩ := aR.shape
    have h := c5
    refine WL.store (v := ag (hl d (vl T U V) (vl W Z aa))) (cells' := (hl d (vl T U V) (vl W Z aa))) ty38 z z c3 z (le_ z) z z ?_
    intro bx r aS
    refine wY (ya z) z (nl (th (sq (sq (rg (wY (ym z) z (wY (Y.eql_i z z) z (nl (th ?_)))))))))
    rcases cnd h with ⟨aT, h⟩ | ⟨aT, h⟩
    ·refine WC.condT' z aT (sq (rg (wY (yb (vals := []) (cells := hzr) (fe_ z) (by kernel_rfl)) z ?_)))
     have di := ((((((((((((ak.st I z).st q z).st j z).st l z).st C z).st m z).st n z).st D z).st o z).st p z).st K z).st G z).st r z
     refine WL.store (v := ag hzr) (cells' := hzr) ty38 z z di z (le_ z) z z ?_
     intro dj b3 dk
     refine wY (ya z) z (nl (th (rt (At.thenR (At.inBlockR (At.thenR (At.loopR ?_)))))))
     have h := outr1 h ad az
     refine At.joinBR (At.inBlockR (At.thenR ?_))
     obtain ⟨rfl, rfl⟩ := tup2 h
     have dl : Stp [13, 18, 21, 24, 27] (Lg.O0 A) w bd dj := (tr_ (su_ H z) (tr_ (su_ F z) (tr_ (su_ t z) (tr_ (su_ I z) (tr_ (su_ q z) (tr_ (su_ j z) (tr_ (su_ l z) (tr_ (su_ C z) (tr_ (su_ m z) (tr_ (su_ n z) (tr_ (su_ D z) (tr_ (su_ o z) (tr_ (su_ p z) (tr_ (su_ K z) (tr_ (su_ G z) (tr_ (su_ r z) (su_ b3 z)))))))))))))))))
     exact At.res (.inl z) z (.cell z (dk.runAg 0 hzr ty38 z z z) (.tmp z .nil)) ⟨sn, sn, z, (se_ dl z z), RowF.nil, RowF.nil, (fun _ e => absurd e not_nil)⟩
    ·refine WC.condF' z aT (sk (th (sq (rg (wY (ym z) z (wY (Y.eql_i z z) z (wY (ym z) z ?_)))))))
     refine WL.cut 7 (σ := Unit) (fun _ w' => bx = w') (fun _ => [(2, vi a2), (6, pt ac 0), (8, pt af 0), (9, vi M), (14, pt aP 0), (70, vB ((decide (J = 0)) && (decide ((d.Pos.Counts.length : Int) ≤ a2))))]) ?_ ?_
     ·refine WL.part 63 z (fun aU => ?_) (fun aU => ?_)
      ·refine ug z z (wY (yf fo38_2 z) z (ug z z (wY (yf fo36_1 z) z (ug z z (wY (yl ty34 z z (aS.cell 3 _ z)) z (ug z z ?_))))))
       have dm := aQ.st r z z z
       refine wY (Y.len ty34 z dm.src.sl) z (ug z z (wY (ym z) z (ug z z (wY (Y.leq_i z z) z (wY (Y.pick (b := true) z z) z (WL.ren (v' := vB ((decide (J = 0)) && (decide ((d.Pos.Counts.length : Int) ≤ a2)))) 70 z (congrArg vB (andT aU)) ?_))))))
       exact nl (At.join () z (.cons z (.cons z (.cons z (.cons z (.cons z (.cons z .nil)))))))
      ·refine WL.gS z z z z (WL.gS z z z z (WL.gS z z z z (WL.gS z z z z (WL.gS z z z z (WL.gS z z z z (wY (Y.pick (b := false) z z) z (WL.ren (v' := vB ((decide (J = 0)) && (decide ((d.Pos.Counts.length : Int) ≤ a2)))) 70 z (congrArg vB (andF aU)) ?_)))))))
       exact nl (At.join () z (.cons z (.cons z (.cons z (.cons z (.cons z (.cons z .nil)))))))
     ·rintro _ _ rfl
      refine (show WL _ _ _ _ _ [(2, vi a2), (6, pt ac 0), (8, pt af 0), (9, vi M), (14, pt aP 0), (70, vB ((decide (J = 0)) && (decide ((d.Pos.Counts.length : Int) ≤ a2))))] _ from ?_)
      refine wY (ym z) z ?_
      refine WL.cut 7 (σ := Unit) (fun _ w' => bx = w') (fun _ => [(2, vi a2), (6, pt ac 0), (8, pt af 0), (9, vi M), (14, pt aP 0), (78, vB (((decide (J = 0)) && (decide ((d.Pos.Counts.length : Int) ≤ a2))) && (decide ((d.Neg.Counts.length : Int) ≤ a2))))]) ?_ ?_
      ·refine WL.part 71 z (fun aW => ?_) (fun aW => ?_)
       ·refine ug z z (wY (yf fo38_3 z) z (ug z z (wY (yf fo36_1 z) z (ug z z (wY (yl ty34 z z (aS.cell 5 _ z)) z (ug z z ?_))))))
        have dn := aR.st r z z z
        refine wY (Y.len ty34 z dn.src.sl) z (ug z z (wY (ym z) z (ug z z (wY (Y.leq_i z z) z (wY (Y.pick (b := true) z z) z (WL.ren (v' := vB (((decide (J = 0)) && (decide ((d.Pos.Counts.length : Int) ≤ a2))) && (decide ((d.Neg.Counts.length : Int) ≤ a2)))) 78 z (congrArg vB (andT aW)) ?_))))))
        exact nl (At.join () z (.cons z (.cons z (.cons z (.cons z (.cons z (.cons z .nil)))))))
       ·refine WL.gS z z z z (WL.gS z z z z (WL.gS z z z z (WL.gS z z z z (WL.gS z z z z (WL.gS z z z z (wY (Y.pick (b := false) z z) z (WL.ren (v' := vB (((decide (J = 0)) && (decide ((d.Pos.Counts.length : Int) ≤ a2))) && (decide ((d.Neg.Counts.length : Int) ≤ a2)))) 78 z (congrArg vB (andF aW)) ?_)))))))
        exact nl (At.join () z (.cons z (.cons z (.cons z (.cons z (.cons z (.cons z .nil)))))))
      ·rintro _ _ rfl
       refine (show WL _ _ _ _ _ [(2, vi a2), (6, pt ac 0), (8, pt af 0), (9, vi M), (14, pt aP 0), (78, vB (((decide (J = 0)) && (decide ((d.Pos.Counts.length : Int) ≤ a2))) && (decide ((d.Neg.Counts.length : Int) ≤ a2))))] _ from ?_)
       refine nl (th ?_)
       rcases cnd h with ⟨aX, h⟩ | ⟨aX, h⟩
       ·refine WC.condT' z aX (sq (rg (wY (yL ty38 z z (aS.cells 0 (hl d (vl T U V) (vl W Z aa)) z) z) z ?_)))
        have dD := ((((((((((((ak.st I z).st q z).st j z).st l z).st C z).st m z).st n z).st D z).st o z).st p z).st K z).st G z).st r z
        refine WL.store (v := ag (hl d (vl T U V) (vl W Z aa))) (cells' := (hl d (vl T U V) (vl W Z aa))) ty38 z z dD z (le_ z) z z ?_
        intro dE ae dF
        refine wY (ya z) z (nl (th (rt (At.inBlockR (At.thenR (At.loopR ?_))))))
        have h := outr1 h ad az
        refine At.joinBR (At.inBlockR (At.thenR ?_))
        obtain ⟨rfl, rfl⟩ := tup2 h
        have aY : Stp [13, 18, 21, 24, 27] (Lg.O0 A) w bd dE := (tr_ (su_ H z) (tr_ (su_ F z) (tr_ (su_ t z) (tr_ (su_ I z) (tr_ (su_ q z) (tr_ (su_ j z) (tr_ (su_ l z) (tr_ (su_ C z) (tr_ (su_ m z) (tr_ (su_ n z) (tr_ (su_ D z) (tr_ (su_ o z) (tr_ (su_ p z) (tr_ (su_ K z) (tr_ (su_ G z) (tr_ (su_ r z) (su_ ae z)))))))))))))))))
        have bz := (aQ.st r z z z).st ae z z z
        have bA := (aR.st r z z z).st ae z z z
        exact At.res (.inl z) z (.cell z (dF.runAg 0 (hl d (vl T U V) (vl W Z aa)) ty38 z z z) (.tmp z .nil)) ⟨(vl T U V), (vl W Z aa), z, (se_ aY z z), (OwnSl.outF bz aY low0 z), (OwnSl.outF bA aY low0 z), (ne_own bz bA z)⟩
       ·refine WC.condF' z aX (sk (At.inBlock (th (rg (wY (ym z) z (wY (Y.sub_i z z) z ?_))))))
        obtain ⟨ez, dI, h⟩ := lt1 h
        refine WL.yE (ya z) (congrArg vi dI.symm) z (nl ?_)
        exact At.round (ez, bd) ek (Nat.lt_succ_self _) ⟨next1 h ad, (tr_ (su_ l z) (tr_ (su_ C z) (tr_ (su_ m z) (tr_ (su_ n z) (tr_ (su_ D z) (tr_ (su_ o z) (tr_ (su_ p z) (tr_ (su_ K z) (tr_ (su_ G z) (su_ r z))))))))))⟩ (.cons z (.cons z (.cons z (.cons z .nil))))
   ·refine WC.condF' z aA (WC.exit (At.thenX (At.loopX ?_)))
    exact At.hitB (σ := Own) bZ ⟨brk1 h ad, (su_ l z)⟩ (.cons z .nil)
  ·rintro eA e1 ⟨rfl, a4⟩
   replace h := flowK_go az
   refine (show At _ _ _ [(6, pt ac 0)] _ from ?_)
   refine At.inBlockHit (th (sq (rg (wY (yb (vals := []) (cells := hzr) (fe_ z) (by kernel_rfl)) z ?_))))
   have dM := (((ak.st I z).st q z).st j z).st a4 z
   refine WL.store (v := ag hzr) (cells' := hzr) ty38 z z dM z (le_ z) z z ?_
   intro dN b4 dO
   refine wY (ya z) z (nl (th (rt ?_)))
   obtain ⟨rfl, rfl⟩ := tup2 h
   have dP : Stp [13, 18, 21, 24, 27] (Lg.O0 A) w eA dN := (tr_ (su_ H z) (tr_ (su_ F z) (tr_ (su_ t z) (tr_ (su_ I z) (tr_ (su_ q z) (tr_ (su_ j z) (tr_ (su_ a4 z) (su_ b4 z))))))))
   exact At.res (.inl z) z (.cell z (dO.runAg 0 hzr ty38 z z z) (.tmp z .nil)) ⟨sn, sn, z, (se_ dP z z), RowF.nil, RowF.nil, (fun _ e => absurd e not_nil)⟩
theorem c_ref36_together {A : Nat → Prop} {v0_1 : Value} {v0_13 : Value} {v0_15 : Value} {a0 : api_Point} {v1_1 : Value} {v1_13 : Value} {v1_15 : Value} {a1 : api_Point} {w : World} (hs0_1 : Sl rep_api_Pair w A v0_1 a0.Attrs) (hs0_13 : Sl Rep.u w A v0_13 a0.Hist.Pos.Counts) (hs0_15 : Sl Rep.u w A v0_15 a0.Hist.Neg.Counts) (hs1_1 : Sl rep_api_Pair w A v1_1 a1.Attrs) (hs1_13 : Sl Rep.u w A v1_13 a1.Hist.Pos.Counts) (hs1_15 : Sl Rep.u w A v1_15 a1.Hist.Neg.Counts) {r0 : ref36_Got} (h : ref36_together a0 a1 = some r0) : Rets Tryz.prog 26 [ag (cp a0 v0_1 v0_13 v0_15), ag (cp a1 v1_1 v1_13 v1_15)] w (fun v w' => ∃ (bk : Value) (ba : Value) (bb : Value), v = ag [vs r0.P.Name, bk, vi r0.P.Kind, vi r0.P.Temp, vB r0.P.Mono, vi r0.P.Start, vi r0.P.Time, vi r0.P.Int_, vu r0.P.Re, vu r0.P.Im, vi r0.P.Hist.Scale, vu r0.P.Hist.Zero, vi r0.P.Hist.Pos.Offset, ba, vi r0.P.Hist.Neg.Offset, bb, vi r0.P.Flags, vi r0.E] ∧ Ext w w' ∧ Sl rep_api_Pair w' (fun k => A k ∨ w.heap.size ≤ k) bk r0.P.Attrs ∧ Sl Rep.u w' (fun k => A k ∨ w.heap.size ≤ k) ba r0.P.Hist.Pos.Counts ∧ Sl Rep.u w' (fun k => A k ∨ w.heap.size ≤ k) bb r0.P.Hist.Neg.Counts) := by
 unfold ref36_together at h
 refine Rets.enter Tryz.func26 z z ?_
 have hO : Sl rep_api_Pair w (imm (Lg.O0 A)) v0_1 a0.Attrs := (Sl.start hs0_1)
 have bl : Sl Rep.u w (imm (Lg.O0 A)) v0_13 a0.Hist.Pos.Counts := (Sl.start hs0_13)
 have bm : Sl Rep.u w (imm (Lg.O0 A)) v0_15 a0.Hist.Neg.Counts := (Sl.start hs0_15)
 have hP : Sl rep_api_Pair w (imm (Lg.O0 A)) v1_1 a1.Attrs := (Sl.start hs1_1)
 have hQ : Sl Rep.u w (imm (Lg.O0 A)) v1_13 a1.Hist.Pos.Counts := (Sl.start hs1_13)
 have hR : Sl Rep.u w (imm (Lg.O0 A)) v1_15 a1.Hist.Neg.Counts := (Sl.start hs1_15)
 refine (show WC _ _ _ _ [(0, ag (cp a0 v0_1 v0_13 v0_15)), (1, ag (cp a1 v1_1 v1_13 v1_15))] _ from ?_)
 refine sq (rg ?_)
 have hS := h
 obtain ⟨iJ, iK, iL, rfl⟩ := hO.shape
 have h := hS
 have hT := h
 obtain ⟨bn, bo, bp, rfl⟩ := bl.shape
 have h := hT
 have hU := h
 obtain ⟨bq, br, bs, rfl⟩ := bm.shape
 have h := hU
 refine WL.box (O := (Lg.O0 A)) 11 (cp a0 (vl iJ iK iL) (vl bn bo bp) (vl bq br bs)) z z z ?_
 intro hM iM jb M bt
 have ax := hP.i M z z
 have hV := h
 obtain ⟨n, o, p, rfl⟩ := ax.shape
 have h := hV
 have ay := hQ.i M z z
 have hW := h
 obtain ⟨t, C, D, rfl⟩ := ay.shape
 have h := hW
 have az := hR.i M z z
 have hX := h
 obtain ⟨F, G, H, rfl⟩ := az.shape
 have h := hX
 refine WL.box (O := iM) 12 (cp a1 (vl n o p) (vl t C D) (vl F G H)) z z z ?_
 intro hN iN jc r hY
 refine WL.alloc (O := iN) 13 [vs [], sn, vi 0, vi 0, vB false, vi 0, vi 0, vi 0, vu 0, vu 0, vi 0, vu 0, vi 0, sn, vi 0, sn, vi 0, vi 0] ty45 z z ?_
 intro bc iO jd q al
 refine nl (th (sq (rg ?_)))
 have a5 := hY.st q z
 refine wY (yL ty40 z z (a5.cells 0 (cp a1 (vl n o p) (vl t C D) (vl F G H)) z) z) z (WL.alloc (O := iO) 14 [vs [], sn, vi 0, vi 0, vB false, vi 0, vi 0, vi 0, vu 0, vu 0, vi 0, vu 0, vi 0, sn, vi 0, sn, vi 0] ty40 z z ?_)
 intro a4 bu je j hZ
 refine WL.store (v := ag (cp a1 (vl n o p) (vl t C D) (vl F G H))) (cells' := (cp a1 (vl n o p) (vl t C D) (vl F G H))) ty40 z z hZ z (le_ z) z z ?_
 intro h0 l bw
 refine nl (th (sq ?_))
 obtain ⟨iP, h, h1⟩ := bnd h
 refine WC.join (σ := (Int × Own)) (fun x w' => x.1 = iP ∧ Stp [14] bu h0 x.2 w' ∧ Blk 14 x.2 w' a4 40 [vs a1.Name, (vl n o p), vi a1.Kind, vi a1.Temp, vB a1.Mono, vi x.1, vi a1.Time, vi a1.Int_, vu a1.Re, vu a1.Im, vi a1.Hist.Scale, vu a1.Hist.Zero, vi a1.Hist.Pos.Offset, (vl t C D), vi a1.Hist.Neg.Offset, (vl F G H), vi a1.Flags]) (fun x => [(2, pt hM 0), (3, pt hN 0), (4, pt bc 0), (5, pt a4 0)]) ?_ ?_
 ·refine sq (rg (wY (yf fo40_2 z) z ?_))
  have h3 := (a5.st j z).st l z
  refine wY (yl ty3 z z (h3.cell 2 _ z)) z (wY (Y.neq_i z z) z (nl (th ?_)))
  rcases cnd h with ⟨a6, h⟩ | ⟨a6, h⟩
  ·refine WC.condT' z a6 (rg (wY (yf fo40_5 z) z ?_))
   have h7 := (((bt.st r z).st q z).st j z).st l z
   refine wY (yl ty3 z z (h7.cell 5 _ z)) z (wY (yf fo40_5 z) z (WL.store (v := vi a0.Start) (cells' := [vs a1.Name, (vl n o p), vi a1.Kind, vi a1.Temp, vB a1.Mono, vi a0.Start, vi a1.Time, vi a1.Int_, vu a1.Re, vu a1.Im, vi a1.Hist.Scale, vu a1.Hist.Zero, vi a1.Hist.Pos.Offset, (vl t C D), vi a1.Hist.Neg.Offset, (vl F G H), vi a1.Flags]) ty3 z z bw z (le_ z) z z ?_))
   intro jf bH h8
   refine nl ?_
   exact At.join (σ := (Int × Own)) (a0.Start, bu) ⟨some1 h, (su_ bH z), h8⟩ (.cons z (.cons z (.cons z (.cons z .nil))))
  ·refine WC.condF' z a6 (sk ?_)
   exact At.join (σ := (Int × Own)) (a1.Start, bu) ⟨some1 h, (sr_ _ _ _), bw⟩ (.cons z (.cons z (.cons z (.cons z .nil))))
 ·rintro ⟨K, iQ⟩ jg ⟨rfl, m, bx⟩
  replace h := h1
  try dsimp only at h m bx
  refine (show At _ _ _ [(2, pt hM 0), (3, pt hN 0), (4, pt bc 0), (5, pt a4 0)] _ from ?_)
  refine th (sq (rg (wY (yf fo40_11 z) z ?_)))
  have aP := ((((bt.st r z).st q z).st j z).st l z).st m z
  refine wY (yl ty3 z z (aP.cell 16 _ z)) z (wY (yf fo40_11 z) z ?_)
  have bz := ((a5.st j z).st l z).st m z
  refine wY (yl ty3 z z (bz.cell 16 _ z)) z ?_
  obtain ⟨J, ih, h⟩ := bnd h
  refine WL.call (vals := [vi a0.Flags, vi a1.Flags]) kok58 z z (c_ref36_flags ih) ?_
  rintro jh ji ⟨rfl, ii⟩
  obtain ⟨aQ, iR, iw, c⟩ := adoptE iQ (fun k => 1) ii
  refine wY (yf fo40_11 z) z ?_
  have bI := bx.st c z
  refine WL.store (v := vi J) (cells' := [vs a1.Name, (vl n o p), vi a1.Kind, vi a1.Temp, vB a1.Mono, vi K, vi a1.Time, vi a1.Int_, vu a1.Re, vu a1.Im, vi a1.Hist.Scale, vu a1.Hist.Zero, vi a1.Hist.Pos.Offset, (vl t C D), vi a1.Hist.Neg.Offset, (vl F G H), vi J]) ty3 z z bI z (le_ z) z z ?_
  intro iS d av
  refine nl (th (sq (sq (rg (wY (yf fo40_3 z) z ?_)))))
  have ah := (bz.st c z).st d z
  refine wY (yl ty3 z z (ah.cell 3 _ z)) z (wY (Y.neq_i z z) z (nl (th ?_)))
  rcases cnd h with ⟨aS, h⟩ | ⟨aS, h⟩
  ·refine WC.condT' z aS (sq (rg (wY (yL ty40 z z (av.cells 0 [vs a1.Name, (vl n o p), vi a1.Kind, vi a1.Temp, vB a1.Mono, vi K, vi a1.Time, vi a1.Int_, vu a1.Re, vu a1.Im, vi a1.Hist.Scale, vu a1.Hist.Zero, vi a1.Hist.Pos.Offset, (vl t C D), vi a1.Hist.Neg.Offset, (vl F G H), vi J] z) z) z (wY (yb (vals := [(0, ag [vs a1.Name, (vl n o p), vi a1.Kind, vi a1.Temp, vB a1.Mono, vi K, vi a1.Time, vi a1.Int_, vu a1.Re, vu a1.Im, vi a1.Hist.Scale, vu a1.Hist.Zero, vi a1.Hist.Pos.Offset, (vl t C D), vi a1.Hist.Neg.Offset, (vl F G H), vi J])]) (cells := [vs a1.Name, (vl n o p), vi a1.Kind, vi a1.Temp, vB a1.Mono, vi K, vi a1.Time, vi a1.Int_, vu a1.Re, vu a1.Im, vi a1.Hist.Scale, vu a1.Hist.Zero, vi a1.Hist.Pos.Offset, (vl t C D), vi a1.Hist.Neg.Offset, (vl F G H), vi J, vi 0]) (fe_ z) (by kernel_rfl)) z ?_))))
   have bP := ((((al.st j z).st l z).st m z).st c z).st d z
   refine WL.store (v := ag [vs a1.Name, (vl n o p), vi a1.Kind, vi a1.Temp, vB a1.Mono, vi K, vi a1.Time, vi a1.Int_, vu a1.Re, vu a1.Im, vi a1.Hist.Scale, vu a1.Hist.Zero, vi a1.Hist.Pos.Offset, (vl t C D), vi a1.Hist.Neg.Offset, (vl F G H), vi J, vi 0]) (cells' := [vs a1.Name, (vl n o p), vi a1.Kind, vi a1.Temp, vB a1.Mono, vi K, vi a1.Time, vi a1.Int_, vu a1.Re, vu a1.Im, vi a1.Hist.Scale, vu a1.Hist.Zero, vi a1.Hist.Pos.Offset, (vl t C D), vi a1.Hist.Neg.Offset, (vl F G H), vi J, vi 0]) ty45 z z bP z (le_ z) z z ?_
   intro bQ aA bR
   refine nl (th (rt (At.thenR ?_)))
   obtain rfl := some1 h
   have aJ : Stp [13, 14] (Lg.O0 A) w aQ bQ := (tr_ (su_ M z) (tr_ (su_ r z) (tr_ (su_ q z) (tr_ (su_ j z) (tr_ (su_ l z) (tr_ (su_ m z) (tr_ (su_ c z) (tr_ (su_ d z) (su_ aA z)))))))))
   have b0 := (((((((ax.i r z z).i q z z).i j z z).i l z z).i m z z).i c z z).i d z z).i aA z z
   have b8 := (((((((ay.i r z z).i q z z).i j z z).i l z z).i m z z).i c z z).i d z z).i aA z z
   have cg := (((((((az.i r z z).i q z z).i j z z).i l z z).i m z z).i c z z).i d z z).i aA z z
   exact At.res (.inl z) z (.cell z (bR.runAg 0 [vs a1.Name, (vl n o p), vi a1.Kind, vi a1.Temp, vB a1.Mono, vi K, vi a1.Time, vi a1.Int_, vu a1.Re, vu a1.Im, vi a1.Hist.Scale, vu a1.Hist.Zero, vi a1.Hist.Pos.Offset, (vl t C D), vi a1.Hist.Neg.Offset, (vl F G H), vi J, vi 0] ty45 z z z) .nil) ⟨(vl n o p), (vl t C D), (vl F G H), z, (se_ aJ z z), (Sl.outI b0 aJ low0 O0_A), (Sl.outI b8 aJ low0 O0_A), (Sl.outI cg aJ low0 O0_A)⟩
  ·refine WC.condF' z aS (sk (th (sq (sq (rg (wY (yf fo40_2 z) z (wY (yl ty3 z z (ah.cell 2 _ z)) z (nl (th ?_)))))))))
   refine WC.block (sq (rg (wY (Y.eql_i z z) z ?_)))
   obtain ⟨jj, ch, h⟩ := lt1 h
   refine WL.yE (ya z) (congrArg vB ch.symm) z (nl (th ?_))
   rcases cnd h with ⟨aT, h⟩ | ⟨aT, h⟩
   ·refine WC.condT' z aT (sq (sq (rg (wY (yf fo40_7 z) z ?_))))
    have bd := (aP.st c z).st d z
    refine wY (yl ty3 z z (bd.cell 7 _ z)) z (wY (yf fo40_7 z) z (wY (yl ty3 z z (ah.cell 7 _ z)) z ?_))
    obtain ⟨jk, cj, h⟩ := bnd h
    refine WL.call (vals := [vi a0.Int_, vi a1.Int_, vB false]) kok59 z z (c_ref15_Wide cj) ?_
    rintro iT iU ⟨rfl, ck⟩
    obtain ⟨bA, iy, iz, Q⟩ := adoptE aQ (fun k => 1) ck
    refine nl (th ?_)
    rcases cnd h with ⟨aU, h⟩ | ⟨aU, h⟩
    ·refine WC.condT' z aU (sq (rg (wY (yb (vals := [(1, vi 4)]) (cells := [vs [], sn, vi 0, vi 0, vB false, vi 0, vi 0, vi 0, vu 0, vu 0, vi 0, vu 0, vi 0, sn, vi 0, sn, vi 0, vi 4]) (fe_ z) (by kernel_rfl)) z ?_)))
     have cr := (((((al.st j z).st l z).st m z).st c z).st d z).st Q z
     refine WL.store (v := Value.agg (List.toArray [vs [], sn, vi 0, vi 0, vB false, vi 0, vi 0, vi 0, vu 0, vu 0, vi 0, vu 0, vi 0, sn, vi 0, sn, vi 0, vi 4])) (cells' := [vs [], sn, vi 0, vi 0, vB false, vi 0, vi 0, vi 0, vu 0, vu 0, vi 0, vu 0, vi 0, sn, vi 0, sn, vi 0, vi 4]) ty45 z z cr z (le_ z) z z ?_
     intro cs bB ct
     refine nl (th (rt (At.thenR (At.inBlockR (At.thenR ?_)))))
     obtain rfl := some1 h
     have cu : Stp [13, 14] (Lg.O0 A) w bA cs := (tr_ (su_ M z) (tr_ (su_ r z) (tr_ (su_ q z) (tr_ (su_ j z) (tr_ (su_ l z) (tr_ (su_ m z) (tr_ (su_ c z) (tr_ (su_ d z) (tr_ (su_ Q z) (su_ bB z))))))))))
     exact At.res (.inl z) z (.cell z (ct.runAg 0 [vs [], sn, vi 0, vi 0, vB false, vi 0, vi 0, vi 0, vu 0, vu 0, vi 0, vu 0, vi 0, sn, vi 0, sn, vi 0, vi 4] ty45 z z z) .nil) ⟨sn, sn, sn, z, (se_ cu z z), (Or.inl ⟨z, z⟩), (Or.inl ⟨z, z⟩), (Or.inl ⟨z, z⟩)⟩
    ·refine WC.condF' z aU (sk (th (rg (wY (yf fo40_7 z) z ?_))))
     have cv := bd.st Q z
     refine wY (yl ty3 z z (cv.cell 7 _ z)) z (wY (yf fo40_7 z) z ?_)
     have cw := ah.st Q z
     refine wY (yl ty3 z z (cw.cell 7 _ z)) z (wY (Y.add_i z z) z (wY (yf fo40_7 z) z ?_))
     obtain ⟨ao, cx, h⟩ := lt1 h
     refine WL.ren 40 z (congrArg vi cx.symm) ?_
     have cy := av.st Q z
     refine WL.store (v := vi ao) (cells' := [vs a1.Name, (vl n o p), vi a1.Kind, vi a1.Temp, vB a1.Mono, vi K, vi a1.Time, vi ao, vu a1.Re, vu a1.Im, vi a1.Hist.Scale, vu a1.Hist.Zero, vi a1.Hist.Pos.Offset, (vl t C D), vi a1.Hist.Neg.Offset, (vl F G H), vi J]) ty3 z z cy z (le_ z) z z ?_
     intro iV ap cz
     refine nl (At.inBlock (th (sq (rg (wY (yL ty40 z z (cz.cells 0 [vs a1.Name, (vl n o p), vi a1.Kind, vi a1.Temp, vB a1.Mono, vi K, vi a1.Time, vi ao, vu a1.Re, vu a1.Im, vi a1.Hist.Scale, vu a1.Hist.Zero, vi a1.Hist.Pos.Offset, (vl t C D), vi a1.Hist.Neg.Offset, (vl F G H), vi J] z) z) z (wY (yb (vals := [(0, ag [vs a1.Name, (vl n o p), vi a1.Kind, vi a1.Temp, vB a1.Mono, vi K, vi a1.Time, vi ao, vu a1.Re, vu a1.Im, vi a1.Hist.Scale, vu a1.Hist.Zero, vi a1.Hist.Pos.Offset, (vl t C D), vi a1.Hist.Neg.Offset, (vl F G H), vi J])]) (cells := [vs a1.Name, (vl n o p), vi a1.Kind, vi a1.Temp, vB a1.Mono, vi K, vi a1.Time, vi ao, vu a1.Re, vu a1.Im, vi a1.Hist.Scale, vu a1.Hist.Zero, vi a1.Hist.Pos.Offset, (vl t C D), vi a1.Hist.Neg.Offset, (vl F G H), vi J, vi 0]) (fe_ z) (by kernel_rfl)) z ?_))))))
     have cH := ((((((al.st j z).st l z).st m z).st c z).st d z).st Q z).st ap z
     refine WL.store (v := ag [vs a1.Name, (vl n o p), vi a1.Kind, vi a1.Temp, vB a1.Mono, vi K, vi a1.Time, vi ao, vu a1.Re, vu a1.Im, vi a1.Hist.Scale, vu a1.Hist.Zero, vi a1.Hist.Pos.Offset, (vl t C D), vi a1.Hist.Neg.Offset, (vl F G H), vi J, vi 0]) (cells' := [vs a1.Name, (vl n o p), vi a1.Kind, vi a1.Temp, vB a1.Mono, vi K, vi a1.Time, vi ao, vu a1.Re, vu a1.Im, vi a1.Hist.Scale, vu a1.Hist.Zero, vi a1.Hist.Pos.Offset, (vl t C D), vi a1.Hist.Neg.Offset, (vl F G H), vi J, vi 0]) ty45 z z cH z (le_ z) z z ?_
     intro cI aC cJ
     refine nl (th (rt ?_))
     obtain rfl := some1 h
     have aK : Stp [13, 14] (Lg.O0 A) w bA cI := (tr_ (su_ M z) (tr_ (su_ r z) (tr_ (su_ q z) (tr_ (su_ j z) (tr_ (su_ l z) (tr_ (su_ m z) (tr_ (su_ c z) (tr_ (su_ d z) (tr_ (su_ Q z) (tr_ (su_ ap z) (su_ aC z)))))))))))
     have cT := (((((((((ax.i r z z).i q z z).i j z z).i l z z).i m z z).i c z z).i d z z).i Q z z).i ap z z).i aC z z
     have c3 := (((((((((ay.i r z z).i q z z).i j z z).i l z z).i m z z).i c z z).i d z z).i Q z z).i ap z z).i aC z z
     have dd := (((((((((az.i r z z).i q z z).i j z z).i l z z).i m z z).i c z z).i d z z).i Q z z).i ap z z).i aC z z
     exact At.res (.inl z) z (.cell z (cJ.runAg 0 [vs a1.Name, (vl n o p), vi a1.Kind, vi a1.Temp, vB a1.Mono, vi K, vi a1.Time, vi ao, vu a1.Re, vu a1.Im, vi a1.Hist.Scale, vu a1.Hist.Zero, vi a1.Hist.Pos.Offset, (vl t C D), vi a1.Hist.Neg.Offset, (vl F G H), vi J, vi 0] ty45 z z z) .nil) ⟨(vl n o p), (vl t C D), (vl F G H), z, (se_ aK z z), (Sl.outI cT aK low0 O0_A), (Sl.outI c3 aK low0 O0_A), (Sl.outI dd aK low0 O0_A)⟩
   ·refine WC.condF' z aT (sq (rg (wY (Y.eql_i z z) z ?_)))
    obtain ⟨jl, de, h⟩ := lt1 h
    refine WL.yE (ya z) (congrArg vB de.symm) z (nl (th ?_))
    rcases cnd h with ⟨aW, h⟩ | ⟨aW, h⟩
    ·refine WC.condT' z aW (sq (rg (wY (yf fo40_8 z) z ?_)))
     have dg := (aP.st c z).st d z
     refine wY (yl ty33 z z (dg.cell 8 _ z)) z (wY (yf fo40_8 z) z (wY (yl ty33 z z (ah.cell 8 _ z)) z ?_))
     obtain ⟨am, dh, h⟩ := bnd h
     refine WL.call (vals := [vu a0.Re, vu a1.Re]) kok60 z z (c_ref05_Add dh) ?_
     rintro iW iX ⟨rfl, di⟩
     obtain ⟨a7, iA, iB, S⟩ := adoptE aQ (fun k => 1) di
     refine wY (yf fo40_8 z) z ?_
     have dj := av.st S z
     refine WL.store (v := vu am) (cells' := [vs a1.Name, (vl n o p), vi a1.Kind, vi a1.Temp, vB a1.Mono, vi K, vi a1.Time, vi a1.Int_, vu am, vu a1.Im, vi a1.Hist.Scale, vu a1.Hist.Zero, vi a1.Hist.Pos.Offset, (vl t C D), vi a1.Hist.Neg.Offset, (vl F G H), vi J]) ty33 z z dj z (le_ z) z z ?_
     intro dk U bf
     refine nl (th (sq (rg (wY (yf fo40_4 z) z ?_))))
     have dm := (ah.st S z).st U z
     refine wY (yl ty4 z z (dm.cell 4 _ z)) z (wY (ym z) z ?_)
     obtain ⟨ij, h, dn⟩ := bnd h
     refine WL.cut 5 (σ := (Bool × Own)) (fun x w' => x.1 = ij ∧ Stp [] a7 dk x.2 w') (fun x => [(4, pt bc 0), (5, pt a4 0), (57, vB x.1)]) ?_ ?_
     ·rcases cnd h with ⟨aX, h⟩ | ⟨aX, h⟩
      ·refine WL.ren 52 z (congrArg vB aX) (ug z z (wY (yf fo40_8 z) z (ug z z (wY (yl ty33 z z (bf.cell 8 _ z)) z (ug z z ?_)))))
       obtain ⟨ik, dp, h⟩ := bnd h
       refine WL.call (vals := [vu am]) kok54 z z (c_ref05_Finite dp) ?_
       rintro iY iZ ⟨rfl, dr⟩
       obtain ⟨il, iC, iD, bC⟩ := adoptE a7 (fun k => 1) dr
       refine ug z z (wY (Y.not z) z (wY (Y.pick (b := true) z z) z ?_))
       exact nl (At.join (σ := (Bool × Own)) ((!ik), il) ⟨some1 h, (su_ bC z)⟩ (.cons z (.cons z (.cons z .nil))))
      ·refine WL.ren 52 z (congrArg vB aX) (WL.gS z z z z (WL.gS z z z z (WL.gS z z z z (WL.gS z z z z (wY (Y.pick (b := false) z z) z ?_)))))
       exact nl (At.join (σ := (Bool × Own)) (false, a7) ⟨some1 h, (sr_ _ _ _)⟩ (.cons z (.cons z (.cons z .nil))))
     ·rintro ⟨im, bD⟩ i0 ⟨rfl, T⟩
      replace h := dn
      try dsimp only at h T
      refine (show WL _ _ _ _ _ [(4, pt bc 0), (5, pt a4 0), (57, vB im)] _ from ?_)
      refine nl (th ?_)
      rcases cnd h with ⟨aY, h⟩ | ⟨aY, h⟩
      ·refine WC.condT' z aY (sq (rg (wY (yb (vals := [(1, vi 11)]) (cells := [vs [], sn, vi 0, vi 0, vB false, vi 0, vi 0, vi 0, vu 0, vu 0, vi 0, vu 0, vi 0, sn, vi 0, sn, vi 0, vi 11]) (fe_ z) (by kernel_rfl)) z ?_)))
       have dA := (((((((al.st j z).st l z).st m z).st c z).st d z).st S z).st U z).st T z
       refine WL.store (v := Value.agg (List.toArray [vs [], sn, vi 0, vi 0, vB false, vi 0, vi 0, vi 0, vu 0, vu 0, vi 0, vu 0, vi 0, sn, vi 0, sn, vi 0, vi 11])) (cells' := [vs [], sn, vi 0, vi 0, vB false, vi 0, vi 0, vi 0, vu 0, vu 0, vi 0, vu 0, vi 0, sn, vi 0, sn, vi 0, vi 11]) ty45 z z dA z (le_ z) z z ?_
       intro dB bE dC
       refine nl (th (rt (At.inBlockR (At.thenR ?_))))
       obtain rfl := some1 h
       have dD : Stp [13, 14] (Lg.O0 A) w bD dB := (tr_ (su_ M z) (tr_ (su_ r z) (tr_ (su_ q z) (tr_ (su_ j z) (tr_ (su_ l z) (tr_ (su_ m z) (tr_ (su_ c z) (tr_ (su_ d z) (tr_ (su_ S z) (tr_ (su_ U z) (tr_ (su_ T z) (su_ bE z))))))))))))
       exact At.res (.inl z) z (.cell z (dC.runAg 0 [vs [], sn, vi 0, vi 0, vB false, vi 0, vi 0, vi 0, vu 0, vu 0, vi 0, vu 0, vi 0, sn, vi 0, sn, vi 0, vi 11] ty45 z z z) .nil) ⟨sn, sn, sn, z, (se_ dD z z), (Or.inl ⟨z, z⟩), (Or.inl ⟨z, z⟩), (Or.inl ⟨z, z⟩)⟩
      ·refine WC.condF' z aY (sk (At.inBlock (th (sq (rg ?_)))))
       have dE := bf.st T z
       refine wY (yL ty40 z z (dE.cells 0 [vs a1.Name, (vl n o p), vi a1.Kind, vi a1.Temp, vB a1.Mono, vi K, vi a1.Time, vi a1.Int_, vu am, vu a1.Im, vi a1.Hist.Scale, vu a1.Hist.Zero, vi a1.Hist.Pos.Offset, (vl t C D), vi a1.Hist.Neg.Offset, (vl F G H), vi J] z) z) z (wY (yb (vals := [(0, ag [vs a1.Name, (vl n o p), vi a1.Kind, vi a1.Temp, vB a1.Mono, vi K, vi a1.Time, vi a1.Int_, vu am, vu a1.Im, vi a1.Hist.Scale, vu a1.Hist.Zero, vi a1.Hist.Pos.Offset, (vl t C D), vi a1.Hist.Neg.Offset, (vl F G H), vi J])]) (cells := [vs a1.Name, (vl n o p), vi a1.Kind, vi a1.Temp, vB a1.Mono, vi K, vi a1.Time, vi a1.Int_, vu am, vu a1.Im, vi a1.Hist.Scale, vu a1.Hist.Zero, vi a1.Hist.Pos.Offset, (vl t C D), vi a1.Hist.Neg.Offset, (vl F G H), vi J, vi 0]) (fe_ z) (by kernel_rfl)) z ?_)
       have dM := (((((((al.st j z).st l z).st m z).st c z).st d z).st S z).st U z).st T z
       refine WL.store (v := ag [vs a1.Name, (vl n o p), vi a1.Kind, vi a1.Temp, vB a1.Mono, vi K, vi a1.Time, vi a1.Int_, vu am, vu a1.Im, vi a1.Hist.Scale, vu a1.Hist.Zero, vi a1.Hist.Pos.Offset, (vl t C D), vi a1.Hist.Neg.Offset, (vl F G H), vi J, vi 0]) (cells' := [vs a1.Name, (vl n o p), vi a1.Kind, vi a1.Temp, vB a1.Mono, vi K, vi a1.Time, vi a1.Int_, vu am, vu a1.Im, vi a1.Hist.Scale, vu a1.Hist.Zero, vi a1.Hist.Pos.Offset, (vl t C D), vi a1.Hist.Neg.Offset, (vl F G H), vi J, vi 0]) ty45 z z dM z (le_ z) z z ?_
       intro dN aD dO
       refine nl (th (rt ?_))
       obtain rfl := some1 h
       have aL : Stp [13, 14] (Lg.O0 A) w bD dN := (tr_ (su_ M z) (tr_ (su_ r z) (tr_ (su_ q z) (tr_ (su_ j z) (tr_ (su_ l z) (tr_ (su_ m z) (tr_ (su_ c z) (tr_ (su_ d z) (tr_ (su_ S z) (tr_ (su_ U z) (tr_ (su_ T z) (su_ aD z))))))))))))
       have dZ := ((((((((((ax.i r z z).i q z z).i j z z).i l z z).i m z z).i c z z).i d z z).i S z z).i U z z).i T z z).i aD z z
       have ea := ((((((((((ay.i r z z).i q z z).i j z z).i l z z).i m z z).i c z z).i d z z).i S z z).i U z z).i T z z).i aD z z
       have em := ((((((((((az.i r z z).i q z z).i j z z).i l z z).i m z z).i c z z).i d z z).i S z z).i U z z).i T z z).i aD z z
       exact At.res (.inl z) z (.cell z (dO.runAg 0 [vs a1.Name, (vl n o p), vi a1.Kind, vi a1.Temp, vB a1.Mono, vi K, vi a1.Time, vi a1.Int_, vu am, vu a1.Im, vi a1.Hist.Scale, vu a1.Hist.Zero, vi a1.Hist.Pos.Offset, (vl t C D), vi a1.Hist.Neg.Offset, (vl F G H), vi J, vi 0] ty45 z z z) .nil) ⟨(vl n o p), (vl t C D), (vl F G H), z, (se_ aL z z), (Sl.outI dZ aL low0 O0_A), (Sl.outI ea aL low0 O0_A), (Sl.outI em aL low0 O0_A)⟩
    ·refine WC.condF' z aW (sq (rg (wY (Y.eql_i z z) z ?_)))
     obtain ⟨jm, en, h⟩ := lt1 h
     refine WL.yE (ya z) (congrArg vB en.symm) z (nl (th ?_))
     rcases cnd h with ⟨aZ, h⟩ | ⟨aZ, h⟩
     ·refine WC.condT' z aZ (sq (rg (wY (yf fo40_10 z) z ?_)))
      have ep := (aP.st c z).st d z
      refine wY (yL ty38 z z (ep.cells 10 (hl a0.Hist (vl bn bo bp) (vl bq br bs)) z) z) z (wY (yf fo40_10 z) z (wY (yL ty38 z z (ah.cells 10 (hl a1.Hist (vl t C D) (vl F G H)) z) z) z ?_))
      have ez := (((((((bl.i M z z).i r z z).i q z z).i j z z).i l z z).i m z z).i c z z).i d z z
      have eH := (((((((bm.i M z z).i r z z).i q z z).i j z z).i l z z).i m z z).i c z z).i d z z
      have eO := ((((((ay.i r z z).i q z z).i j z z).i l z z).i m z z).i c z z).i d z z
      have eV := ((((((az.i r z z).i q z z).i j z z).i l z z).i m z z).i c z z).i d z z
      obtain ⟨⟨I, jn⟩, eW, h⟩ := bnd h
      refine WL.call (vals := [ag (hl a0.Hist (vl bn bo bp) (vl bq br bs)), ag (hl a1.Hist (vl t C D) (vl F G H)), vi 160]) kok61 z z (c_ref16_Together (A := fun _ => True) (a0 := a0.Hist) (a1 := a1.Hist) (Sl.all ez) (Sl.all eH) (Sl.all eO) (Sl.all eV) eW) ?_
      rintro i1 bg ⟨a8, bF, rfl, eX, io, ip, iq⟩
      obtain ⟨a9, iE, aR, aj⟩ := adoptE aQ (fun k => if ob a8 = some k then 15 else if ob bF = some k then 16 else 1) eX
      have eY : OwnSl 15 Rep.u 33 a9 bg a8 I.Pos.Counts := RowF.adopt 15 Flat.u io aR (fun k hk => if_pos hk)
      have eZ : OwnSl 16 Rep.u 33 a9 bg bF I.Neg.Counts := RowF.adopt 16 Flat.u ip aR (fun k hk => (if_neg (fun (e : ob a8 = some k) => iq k e hk)).trans (if_pos hk))
      refine wY (ym z) z (wY (yx z z) z (wY (yx z z) z (WL.alloc (O := a9) 17 hzr ty38 z z ?_)))
      intro jo ir i2 V e0
      have bh := eY.st V z z z
      have e1 := h
      obtain ⟨aa, ab, ac, rfl⟩ := bh.shape
      have h := e1
      have bi := eZ.st V z z z
      have e2 := h
      obtain ⟨ad, ae, af, rfl⟩ := bi.shape
      have h := e2
      refine WL.store (v := ag (hl I (vl aa ab ac) (vl ad ae af))) (cells' := (hl I (vl aa ab ac) (vl ad ae af))) ty38 z z e0 z (le_ z) z z ?_
      intro i3 W e5
      refine wY (ya z) z (nl (th (sq (sq (rg (wY (ym z) z (wY (Y.not z) z (nl (th ?_)))))))))
      rcases cnd h with ⟨a2, h⟩ | ⟨a2, h⟩
      ·refine WC.condT' z a2 (sq (rg (wY (yb (vals := [(1, vi 4)]) (cells := [vs [], sn, vi 0, vi 0, vB false, vi 0, vi 0, vi 0, vu 0, vu 0, vi 0, vu 0, vi 0, sn, vi 0, sn, vi 0, vi 4]) (fe_ z) (by kernel_rfl)) z ?_)))
       have fe := (((((((al.st j z).st l z).st m z).st c z).st d z).st aj z).st V z).st W z
       refine WL.store (v := Value.agg (List.toArray [vs [], sn, vi 0, vi 0, vB false, vi 0, vi 0, vi 0, vu 0, vu 0, vi 0, vu 0, vi 0, sn, vi 0, sn, vi 0, vi 4])) (cells' := [vs [], sn, vi 0, vi 0, vB false, vi 0, vi 0, vi 0, vu 0, vu 0, vi 0, vu 0, vi 0, sn, vi 0, sn, vi 0, vi 4]) ty45 z z fe z (le_ z) z z ?_
       intro ff bG fg
       refine nl (th (rt (At.thenR (At.inBlockR (At.thenR ?_)))))
       obtain rfl := some1 h
       have fh : Stp [13, 14, 17] (Lg.O0 A) w ir ff := (tr_ (su_ M z) (tr_ (su_ r z) (tr_ (su_ q z) (tr_ (su_ j z) (tr_ (su_ l z) (tr_ (su_ m z) (tr_ (su_ c z) (tr_ (su_ d z) (tr_ (su_ aj z) (tr_ (su_ V z) (tr_ (su_ W z) (su_ bG z))))))))))))
       exact At.res (.inl z) z (.cell z (fg.runAg 0 [vs [], sn, vi 0, vi 0, vB false, vi 0, vi 0, vi 0, vu 0, vu 0, vi 0, vu 0, vi 0, sn, vi 0, sn, vi 0, vi 4] ty45 z z z) .nil) ⟨sn, sn, sn, z, (se_ fh z z), (Or.inl ⟨z, z⟩), (Or.inl ⟨z, z⟩), (Or.inl ⟨z, z⟩)⟩
      ·refine WC.condF' z a2 (sk (th (rg (wY (yL ty38 z z (e5.cells 0 (hl I (vl aa ab ac) (vl ad ae af)) z) z) z (wY (yf fo40_10 z) z ?_)))))
       have fk := ((av.st aj z).st V z).st W z
       refine WL.store (v := ag (hl I (vl aa ab ac) (vl ad ae af))) (cells' := [vs a1.Name, (vl n o p), vi a1.Kind, vi a1.Temp, vB a1.Mono, vi K, vi a1.Time, vi a1.Int_, vu a1.Re, vu a1.Im, vi I.Scale, vu I.Zero, vi I.Pos.Offset, (vl aa ab ac), vi I.Neg.Offset, (vl ad ae af), vi J]) ty38 z z fk z (le_ z) z z ?_
       intro i4 aq fl
       refine nl (At.inBlock (th (sq (rg (wY (yL ty40 z z (fl.cells 0 [vs a1.Name, (vl n o p), vi a1.Kind, vi a1.Temp, vB a1.Mono, vi K, vi a1.Time, vi a1.Int_, vu a1.Re, vu a1.Im, vi I.Scale, vu I.Zero, vi I.Pos.Offset, (vl aa ab ac), vi I.Neg.Offset, (vl ad ae af), vi J] z) z) z (wY (yb (vals := [(0, ag [vs a1.Name, (vl n o p), vi a1.Kind, vi a1.Temp, vB a1.Mono, vi K, vi a1.Time, vi a1.Int_, vu a1.Re, vu a1.Im, vi I.Scale, vu I.Zero, vi I.Pos.Offset, (vl aa ab ac), vi I.Neg.Offset, (vl ad ae af), vi J])]) (cells := [vs a1.Name, (vl n o p), vi a1.Kind, vi a1.Temp, vB a1.Mono, vi K, vi a1.Time, vi a1.Int_, vu a1.Re, vu a1.Im, vi I.Scale, vu I.Zero, vi I.Pos.Offset, (vl aa ab ac), vi I.Neg.Offset, (vl ad ae af), vi J, vi 0]) (fe_ z) (by kernel_rfl)) z ?_))))))
       have fv := ((((((((al.st j z).st l z).st m z).st c z).st d z).st aj z).st V z).st W z).st aq z
       refine WL.store (v := ag [vs a1.Name, (vl n o p), vi a1.Kind, vi a1.Temp, vB a1.Mono, vi K, vi a1.Time, vi a1.Int_, vu a1.Re, vu a1.Im, vi I.Scale, vu I.Zero, vi I.Pos.Offset, (vl aa ab ac), vi I.Neg.Offset, (vl ad ae af), vi J, vi 0]) (cells' := [vs a1.Name, (vl n o p), vi a1.Kind, vi a1.Temp, vB a1.Mono, vi K, vi a1.Time, vi a1.Int_, vu a1.Re, vu a1.Im, vi I.Scale, vu I.Zero, vi I.Pos.Offset, (vl aa ab ac), vi I.Neg.Offset, (vl ad ae af), vi J, vi 0]) ty45 z z fv z (le_ z) z z ?_
       intro fw aE fx
       refine nl (th (rt ?_))
       obtain rfl := some1 h
       have fA := ((bh.st W z z z).st aq z z z).st aE z z z
       obtain ⟨jp, aF, fB⟩ := OwnSl.giveF rfl Flat.u fA
       have fG := (((bi.st W z z z).st aq z z z).st aE z z z).st aF z z z
       obtain ⟨it, aG, fH⟩ := OwnSl.giveF rfl Flat.u fG
       have aM : Stp [13, 14, 15, 16, 17] (Lg.O0 A) w it fw := (tr_ (su_ M z) (tr_ (su_ r z) (tr_ (su_ q z) (tr_ (su_ j z) (tr_ (su_ l z) (tr_ (su_ m z) (tr_ (su_ c z) (tr_ (su_ d z) (tr_ (su_ aj z) (tr_ (su_ V z) (tr_ (su_ W z) (tr_ (su_ aq z) (tr_ (su_ aE z) (tr_ (su_ aF z) (su_ aG z)))))))))))))))
       have f0 := (((((((((((((ax.i r z z).i q z z).i j z z).i l z z).i m z z).i c z z).i d z z).i aj z z).i V z z).i W z z).i aq z z).i aE z z).i aF z z).i aG z z
       have f1 := fB.f aG z
       have f3 := (fx.st aF z).st aG z
       exact At.res (.inl z) z (.cell z (f3.runAg 0 [vs a1.Name, (vl n o p), vi a1.Kind, vi a1.Temp, vB a1.Mono, vi K, vi a1.Time, vi a1.Int_, vu a1.Re, vu a1.Im, vi I.Scale, vu I.Zero, vi I.Pos.Offset, (vl aa ab ac), vi I.Neg.Offset, (vl ad ae af), vi J, vi 0] ty45 z z z) .nil) ⟨(vl n o p), (vl aa ab ac), (vl ad ae af), z, (se_ aM z z), (Sl.outI f0 aM low0 O0_A), (Sl.outI (Sl.mono f1 frs_imm) aM low0 O0_A), (Sl.outI (Sl.mono fH frs_imm) aM low0 O0_A)⟩
     ·refine WC.condF' z aZ (sq (rg (wY (Y.eql_i z z) z ?_)))
      obtain ⟨jq, f4, h⟩ := lt1 h
      refine WL.yE (ya z) (congrArg vB f4.symm) z (nl (th ?_))
      rcases cnd h with ⟨a3, h⟩ | ⟨a3, h⟩
      ·refine WC.condT' z a3 (sq (rg (wY (yf fo40_8 z) z ?_)))
       have bj := (aP.st c z).st d z
       refine wY (yl ty33 z z (bj.cell 8 _ z)) z (wY (yf fo40_8 z) z (wY (yl ty33 z z (ah.cell 8 _ z)) z ?_))
       obtain ⟨an, f6, h⟩ := bnd h
       refine WL.call (vals := [vu a0.Re, vu a1.Re]) kok60 z z (c_ref05_Add f6) ?_
       rintro i5 i6 ⟨rfl, f7⟩
       obtain ⟨iu, iF, iG, Z⟩ := adoptE aQ (fun k => 1) f7
       refine wY (yf fo40_8 z) z ?_
       have f8 := av.st Z z
       refine WL.store (v := vu an) (cells' := [vs a1.Name, (vl n o p), vi a1.Kind, vi a1.Temp, vB a1.Mono, vi K, vi a1.Time, vi a1.Int_, vu an, vu a1.Im, vi a1.Hist.Scale, vu a1.Hist.Zero, vi a1.Hist.Pos.Offset, (vl t C D), vi a1.Hist.Neg.Offset, (vl F G H), vi J]) ty33 z z f8 z (le_ z) z z ?_
       intro i7 ai f9
       refine nl (th (rg (wY (yf fo40_9 z) z ?_)))
       have gb := (bj.st Z z).st ai z
       refine wY (yl ty33 z z (gb.cell 9 _ z)) z (wY (yf fo40_9 z) z ?_)
       have gd := (ah.st Z z).st ai z
       refine wY (yl ty33 z z (gd.cell 9 _ z)) z ?_
       obtain ⟨ar, ge, h⟩ := bnd h
       refine WL.call (vals := [vu a0.Im, vu a1.Im]) kok60 z z (c_ref05_Add ge) ?_
       rintro i8 i9 ⟨rfl, gf⟩
       obtain ⟨iv, iH, iI, ak⟩ := adoptE iu (fun k => 1) gf
       refine wY (yf fo40_9 z) z ?_
       have gg := f9.st ak z
       refine WL.store (v := vu ar) (cells' := [vs a1.Name, (vl n o p), vi a1.Kind, vi a1.Temp, vB a1.Mono, vi K, vi a1.Time, vi a1.Int_, vu an, vu ar, vi a1.Hist.Scale, vu a1.Hist.Zero, vi a1.Hist.Pos.Offset, (vl t C D), vi a1.Hist.Neg.Offset, (vl F G H), vi J]) ty33 z z gg z (le_ z) z z ?_
       intro ja au gh
       refine nl (At.inBlock (th (sq (rg (wY (yL ty40 z z (gh.cells 0 [vs a1.Name, (vl n o p), vi a1.Kind, vi a1.Temp, vB a1.Mono, vi K, vi a1.Time, vi a1.Int_, vu an, vu ar, vi a1.Hist.Scale, vu a1.Hist.Zero, vi a1.Hist.Pos.Offset, (vl t C D), vi a1.Hist.Neg.Offset, (vl F G H), vi J] z) z) z (wY (yb (vals := [(0, ag [vs a1.Name, (vl n o p), vi a1.Kind, vi a1.Temp, vB a1.Mono, vi K, vi a1.Time, vi a1.Int_, vu an, vu ar, vi a1.Hist.Scale, vu a1.Hist.Zero, vi a1.Hist.Pos.Offset, (vl t C D), vi a1.Hist.Neg.Offset, (vl F G H), vi J])]) (cells := [vs a1.Name, (vl n o p), vi a1.Kind, vi a1.Temp, vB a1.Mono, vi K, vi a1.Time, vi a1.Int_, vu an, vu ar, vi a1.Hist.Scale, vu a1.Hist.Zero, vi a1.Hist.Pos.Offset, (vl t C D), vi a1.Hist.Neg.Offset, (vl F G H), vi J, vi 0]) (fe_ z) (by kernel_rfl)) z ?_))))))
       have gr := ((((((((al.st j z).st l z).st m z).st c z).st d z).st Z z).st ai z).st ak z).st au z
       refine WL.store (v := ag [vs a1.Name, (vl n o p), vi a1.Kind, vi a1.Temp, vB a1.Mono, vi K, vi a1.Time, vi a1.Int_, vu an, vu ar, vi a1.Hist.Scale, vu a1.Hist.Zero, vi a1.Hist.Pos.Offset, (vl t C D), vi a1.Hist.Neg.Offset, (vl F G H), vi J, vi 0]) (cells' := [vs a1.Name, (vl n o p), vi a1.Kind, vi a1.Temp, vB a1.Mono, vi K, vi a1.Time, vi a1.Int_, vu an, vu ar, vi a1.Hist.Scale, vu a1.Hist.Zero, vi a1.Hist.Pos.Offset, (vl t C D), vi a1.Hist.Neg.Offset, (vl F G H), vi J, vi 0]) ty45 z z gr z (le_ z) z z ?_
       intro gs aH gt
       refine nl (th (rt ?_))
       obtain rfl := some1 h
       have aN : Stp [13, 14] (Lg.O0 A) w iv gs := (tr_ (su_ M z) (tr_ (su_ r z) (tr_ (su_ q z) (tr_ (su_ j z) (tr_ (su_ l z) (tr_ (su_ m z) (tr_ (su_ c z) (tr_ (su_ d z) (tr_ (su_ Z z) (tr_ (su_ ai z) (tr_ (su_ ak z) (tr_ (su_ au z) (su_ aH z)))))))))))))
       have gL := (((((((((((ax.i r z z).i q z z).i j z z).i l z z).i m z z).i c z z).i d z z).i Z z z).i ai z z).i ak z z).i au z z).i aH z z
       have g0 := (((((((((((ay.i r z z).i q z z).i j z z).i l z z).i m z z).i c z z).i d z z).i Z z z).i ai z z).i ak z z).i au z z).i aH z z
       have hd := (((((((((((az.i r z z).i q z z).i j z z).i l z z).i m z z).i c z z).i d z z).i Z z z).i ai z z).i ak z z).i au z z).i aH z z
       exact At.res (.inl z) z (.cell z (gt.runAg 0 [vs a1.Name, (vl n o p), vi a1.Kind, vi a1.Temp, vB a1.Mono, vi K, vi a1.Time, vi a1.Int_, vu an, vu ar, vi a1.Hist.Scale, vu a1.Hist.Zero, vi a1.Hist.Pos.Offset, (vl t C D), vi a1.Hist.Neg.Offset, (vl F G H), vi J, vi 0] ty45 z z z) .nil) ⟨(vl n o p), (vl t C D), (vl F G H), z, (se_ aN z z), (Sl.outI gL aN low0 O0_A), (Sl.outI g0 aN low0 O0_A), (Sl.outI hd aN low0 O0_A)⟩
      ·refine WC.condF' z a3 (sk (At.inBlock (th (sq (rg (wY (yL ty40 z z (av.cells 0 [vs a1.Name, (vl n o p), vi a1.Kind, vi a1.Temp, vB a1.Mono, vi K, vi a1.Time, vi a1.Int_, vu a1.Re, vu a1.Im, vi a1.Hist.Scale, vu a1.Hist.Zero, vi a1.Hist.Pos.Offset, (vl t C D), vi a1.Hist.Neg.Offset, (vl F G H), vi J] z) z) z (wY (yb (vals := [(0, ag [vs a1.Name, (vl n o p), vi a1.Kind, vi a1.Temp, vB a1.Mono, vi K, vi a1.Time, vi a1.Int_, vu a1.Re, vu a1.Im, vi a1.Hist.Scale, vu a1.Hist.Zero, vi a1.Hist.Pos.Offset, (vl t C D), vi a1.Hist.Neg.Offset, (vl F G H), vi J])]) (cells := [vs a1.Name, (vl n o p), vi a1.Kind, vi a1.Temp, vB a1.Mono, vi K, vi a1.Time, vi a1.Int_, vu a1.Re, vu a1.Im, vi a1.Hist.Scale, vu a1.Hist.Zero, vi a1.Hist.Pos.Offset, (vl t C D), vi a1.Hist.Neg.Offset, (vl F G H), vi J, vi 0]) (fe_ z) (by kernel_rfl)) z ?_)))))))
       have hi := ((((al.st j z).st l z).st m z).st c z).st d z
       refine WL.store (v := ag [vs a1.Name, (vl n o p), vi a1.Kind, vi a1.Temp, vB a1.Mono, vi K, vi a1.Time, vi a1.Int_, vu a1.Re, vu a1.Im, vi a1.Hist.Scale, vu a1.Hist.Zero, vi a1.Hist.Pos.Offset, (vl t C D), vi a1.Hist.Neg.Offset, (vl F G H), vi J, vi 0]) (cells' := [vs a1.Name, (vl n o p), vi a1.Kind, vi a1.Temp, vB a1.Mono, vi K, vi a1.Time, vi a1.Int_, vu a1.Re, vu a1.Im, vi a1.Hist.Scale, vu a1.Hist.Zero, vi a1.Hist.Pos.Offset, (vl t C D), vi a1.Hist.Neg.Offset, (vl F G H), vi J, vi 0]) ty45 z z hi z (le_ z) z z ?_
       intro hj aI hm
       refine nl (th (rt ?_))
       obtain rfl := some1 h
       have aO : Stp [13, 14] (Lg.O0 A) w aQ hj := (tr_ (su_ M z) (tr_ (su_ r z) (tr_ (su_ q z) (tr_ (su_ j z) (tr_ (su_ l z) (tr_ (su_ m z) (tr_ (su_ c z) (tr_ (su_ d z) (su_ aI z)))))))))
       have hu := (((((((ax.i r z z).i q z z).i j z z).i l z z).i m z z).i c z z).i d z z).i aI z z
       have hD := (((((((ay.i r z z).i q z z).i j z z).i l z z).i m z z).i c z z).i d z z).i aI z z
       have hL := (((((((az.i r z z).i q z z).i j z z).i l z z).i m z z).i c z z).i d z z).i aI z z
       exact At.res (.inl z) z (.cell z (hm.runAg 0 [vs a1.Name, (vl n o p), vi a1.Kind, vi a1.Temp, vB a1.Mono, vi K, vi a1.Time, vi a1.Int_, vu a1.Re, vu a1.Im, vi a1.Hist.Scale, vu a1.Hist.Zero, vi a1.Hist.Pos.Offset, (vl t C D), vi a1.Hist.Neg.Offset, (vl F G H), vi J, vi 0] ty45 z z z) .nil) ⟨(vl n o p), (vl t C D), (vl F G H), z, (se_ aO z z), (Sl.outI hu aO low0 O0_A), (Sl.outI hD aO low0 O0_A), (Sl.outI hL aO low0 O0_A)⟩
theorem c_ref36_Roll {A : Nat → Prop} {a0 : List api_Point} {v0 : Value} {a1 : Int} {w : World} (hs0 : Sl rep_api_Point w A v0 a0) {r0 : ref36_Rolled} (h : ref36_Roll a0 a1 = some r0) : Rets Tryz.prog 9 [v0, vi a1] w (fun v w' => ∃ (b9 : Value), v = ag [b9, vi r0.At, vi r0.E] ∧ Ext w w' ∧ Sl rep_api_Point w' (fun k => A k ∨ w.heap.size ≤ k) b9 r0.L) := by
 unfold ref36_Roll at h
 refine Rets.enter Tryz.func9 z z ?_
 have fJ : Sl rep_api_Point w (imm (Lg.O0 A)) v0 a0 := (Sl.start hs0)
 refine (show WC _ _ _ _ [(0, v0), (1, vi a1)] _ from ?_)
 refine sq (rg (WL.alloc (O := (Lg.O0 A)) 11 [sn, vi 0, vi 0] ty29 z z ?_))
 intro ak bP ca az aO
 refine nl (th (sq (sq (rg (wY (ym z) z (wY (Y.lss_i z z) z (nl (th ?_))))))))
 rcases cnd h with ⟨bu, h⟩ | ⟨bu, h⟩
 ·refine WC.condT' z bu (sq (rg (wY (yb (vals := [(2, vi 1)]) (cells := [sn, vi 0, vi 1]) (fe_ z) (by kernel_rfl)) z (WL.store (v := ag [sn, vi 0, vi 1]) (cells' := [sn, vi 0, vi 1]) ty29 z z aO z (le_ z) z z ?_))))
  intro fK cZ fL
  refine nl (th (rt (At.thenR ?_)))
  obtain rfl := some1 h
  have fN : Stp [11] (Lg.O0 A) w bP fK := (tr_ (su_ az z) (su_ cZ z))
  exact At.res (.inl z) z (.cell z (fL.runAg 0 [sn, vi 0, vi 1] ty29 z z z) .nil) ⟨sn, z, (se_ fN z z), (Or.inl ⟨z, z⟩)⟩
 ·refine WC.condF' z bu (sk (th (sq (rg (wY (ya z) z (nl (th (sq (sq ?_)))))))))
  refine rg (wY (ya z) z (nl (th (WC.block ?_))))
  obtain ⟨fB, h, a2⟩ := flow1 h
  obtain ⟨fC, h⟩ := loop_some h
  refine WC.joinB 0 (σ := (List api_Point × Own × Value)) (fun x w' => fB = .go x.1 ∧ Stp [12, 13, 14, 1001, 1002, 1003] bP ca x.2.1 w' ∧ OwnSl 1004 rep_api_Point 40 x.2.1 w' x.2.2 x.1) (fun x => [(4, pt ak 0), (5, x.2.2)]) ?_ ?_
  ·refine WC.loop (σ := (List api_Point × Int × Own × Value)) (fun x k w' => loopN k (ref36_Roll_lp1 a0 a1) (x.1, x.2.1) = some fB ∧ Stp [12, 13, 14, 1001, 1002, 1003] bP ca x.2.2.1 w' ∧ OwnSl 1002 rep_api_Point 40 x.2.2.1 w' x.2.2.2 x.1) (fun x => [(0, v0), (1, vi a1), (4, pt ak 0), (5, x.2.2.2), (6, vi x.2.1)]) ([], 0, bP, sn) fC (.cons z (.cons z (.cons z (.cons z (.cons z .nil))))) ⟨h, (sr_ _ _ _), (OwnSl.nil 1002 rep_api_Point 40)⟩ ?_
   rintro ⟨c0, S, fD, aK⟩ fC fO ⟨h, ac, bw⟩
   obtain ⟨g2, io, rfl, h, aP⟩ := rnd1 h
   unfold ref36_Roll_lp1 at h
   try dsimp only at h ac bw
   refine (show WC _ _ _ _ [(0, v0), (1, vi a1), (4, pt ak 0), (5, aK), (6, vi S)] _ from ?_)
   refine sq (sq (rg (wY (ym z) z (wY (ym z) z ?_))))
   have aC := (fJ.i az z z).i ac z z
   refine wY (Y.len ty22 z aC) z (wY (Y.lss_i z z) z (nl (th ?_)))
   rcases cnd h with ⟨bx, h⟩ | ⟨bx, h⟩
   ·refine WC.condT' z bx (sk (th (sq ?_)))
    obtain ⟨g3, h, a3⟩ := flow1 h
    refine WC.join (σ := (List api_Point × Own × Value)) (fun x w' => g3 = .go x.1 ∧ Stp [12, 13, 14, 1002, 1003] fD fO x.2.1 w' ∧ OwnSl 1001 rep_api_Point 40 x.2.1 w' x.2.2 x.1) (fun x => [(0, v0), (1, vi a1), (4, pt ak 0), (5, x.2.2), (6, vi S)]) ?_ ?_
    ·refine WC.block (sq (sq (rg (wY (ym z) z (wY (ym z) z ?_)))))
     obtain ⟨cb, fQ, h⟩ := bnd h
     obtain ⟨ip, hn, ho, hV, fR, fT, fU, bz, c1, fV⟩ := Sl.at2 aC fQ
     obtain ⟨_, _, rfl, rfl, ⟨_, _, rfl, ⟨fF, rfl, fY⟩, ⟨_, _, rfl, rfl, ⟨_, _, rfl, rfl, ⟨_, _, rfl, rfl, ⟨_, _, rfl, rfl, ⟨_, _, rfl, rfl, ⟨_, _, rfl, rfl, ⟨_, _, rfl, rfl, ⟨_, _, rfl, rfl, ⟨_, _, rfl, ⟨_, _, rfl, rfl, ⟨_, _, rfl, rfl, ⟨_, _, rfl, ⟨_, _, rfl, rfl, ⟨fG, rfl, f0⟩⟩, ⟨_, _, rfl, rfl, ⟨fH, rfl, f1⟩⟩⟩⟩⟩, rfl⟩⟩⟩⟩⟩⟩⟩⟩⟩⟩⟩ := c1
     replace bz : CellsAt _ _ _ (cp cb fF fG fH) := bz
     have c2 := CAt.imm bz fV
     refine wY (Y.indexAddr ty22 ty40 z fR z fT fU) z (wY (yL ty40 z z c2.at_ z) z ?_)
     obtain ⟨bn, f2, h⟩ := bnd h
     refine WL.call (vals := [ag (cp cb fF fG fH)]) kok24 z z (c_ref12_Check (A := fun _ => True) (a0 := cb) (Sl.all fY) (Sl.all f0) (Sl.all f1) f2) ?_
     rintro hW f3 ⟨rfl, f4⟩
     obtain ⟨bo, g4, g5, U⟩ := adoptE fD (fun k => 1) f4
     refine wY (ya z) z (nl (th (sq (rg (wY (ym z) z (wY (Y.neq_i z z) z (nl (th ?_))))))))
     rcases cnd h with ⟨bA, h⟩ | ⟨bA, h⟩
     ·refine WC.condT' z bA (sq (rg (wY (ym z) z (wY (ym z) z (wY (yb (vals := [(1, vi S), (2, vi bn)]) (cells := [sn, vi S, vi bn]) (fe_ z) (by kernel_rfl)) z ?_)))))
      have f6 := (aO.st ac z).st U z
      refine WL.store (v := ag [sn, vi S, vi bn]) (cells' := [sn, vi S, vi bn]) ty29 z z f6 z (le_ z) z z ?_
      intro f7 c3 f8
      refine nl (th (rt (At.thenR (At.inBlockR ?_))))
      have h := outs1 h a3
      refine At.joinR (At.thenR (At.loopR ?_))
      have h := outr1 h aP a2
      refine At.joinBR (At.inBlockR (At.thenR ?_))
      obtain rfl := some1 h
      have f9 : Stp [11, 12, 13, 14, 1001, 1002, 1003] (Lg.O0 A) w bo f7 := (tr_ (su_ az z) (tr_ (su_ ac z) (tr_ (su_ U z) (su_ c3 z))))
      exact At.res (.inl z) z (.cell z (f8.runAg 0 [sn, vi S, vi bn] ty29 z z z) .nil) ⟨sn, z, (se_ f9 z z), (Or.inl ⟨z, z⟩)⟩
     ·refine WC.condF' z bA (sk (th (sq ?_)))
      obtain ⟨g6, h, cc⟩ := flow1 h
      refine WC.join (σ := Own) (fun x w' => g6 = .go () ∧ Stp [] bo f3 x w') (fun x => [(0, v0), (1, vi a1), (4, pt ak 0), (5, aK), (6, vi S)]) ?_ ?_
      ·refine sq (rg (wY (ym z) z (wY (Y.gtr_i z z) z (nl (th ?_)))))
       rcases cnd h with ⟨bB, h⟩ | ⟨bB, h⟩
       ·refine WC.condT' z bB (sq (WC.draw 9 bo fmix (by kernel_rfl) ?_))
        intro hX aL
        refine WS.y (ym z) z (WS.y (ym z) z (WS.y (Y.sub_i z z) z ?_))
        obtain ⟨cd, ga, h⟩ := bnd h
        have bQ := (aC.i U z z).i aL z z
        obtain ⟨iq, g7, g8, hp, gb, gc, gd, bC, ce, c5⟩ := Sl.at2 bQ ga
        obtain ⟨_, _, rfl, rfl, ⟨_, _, rfl, ⟨cf, rfl, c6⟩, ⟨_, _, rfl, rfl, ⟨_, _, rfl, rfl, ⟨_, _, rfl, rfl, ⟨_, _, rfl, rfl, ⟨_, _, rfl, rfl, ⟨_, _, rfl, rfl, ⟨_, _, rfl, rfl, ⟨_, _, rfl, rfl, ⟨_, _, rfl, ⟨_, _, rfl, rfl, ⟨_, _, rfl, rfl, ⟨_, _, rfl, ⟨_, _, rfl, rfl, ⟨cg, rfl, c7⟩⟩, ⟨_, _, rfl, rfl, ⟨ch, rfl, c8⟩⟩⟩⟩⟩, rfl⟩⟩⟩⟩⟩⟩⟩⟩⟩⟩⟩ := ce
        replace bC : CellsAt _ _ _ (cp cd cf cg ch) := bC
        have ci := CAt.imm bC c5
        refine WS.y (Y.indexAddr ty22 ty40 z gb z gc gd) z (WS.y (yL ty40 z z ci.at_ z) z (WS.y (ym z) z (WS.y (ym z) z ?_)))
        obtain ⟨bD, c9, h⟩ := bnd h
        obtain ⟨hY, g9, ha, hq, da, db, dc, a4, cj, dd⟩ := Sl.at2 bQ c9
        obtain ⟨_, _, rfl, rfl, ⟨_, _, rfl, ⟨ck, rfl, de⟩, ⟨_, _, rfl, rfl, ⟨_, _, rfl, rfl, ⟨_, _, rfl, rfl, ⟨_, _, rfl, rfl, ⟨_, _, rfl, rfl, ⟨_, _, rfl, rfl, ⟨_, _, rfl, rfl, ⟨_, _, rfl, rfl, ⟨_, _, rfl, ⟨_, _, rfl, rfl, ⟨_, _, rfl, rfl, ⟨_, _, rfl, ⟨_, _, rfl, rfl, ⟨cl, rfl, df⟩⟩, ⟨_, _, rfl, rfl, ⟨cm, rfl, dg⟩⟩⟩⟩⟩, rfl⟩⟩⟩⟩⟩⟩⟩⟩⟩⟩⟩ := cj
        replace a4 : CellsAt _ _ _ (cp bD ck cl cm) := a4
        have cn := CAt.imm a4 dd
        refine WS.y (Y.indexAddr ty22 ty40 z da z db dc) z (WS.y (yL ty40 z z cn.at_ z) z (WS.tail ?_))
        obtain ⟨aQ, dh, h⟩ := bnd h
        refine WL.call (vals := [ag (cp cd cf cg ch), ag (cp bD ck cl cm)]) kok25 z z (c_ref36_behind (A := fun _ => True) (a0 := cd) (a1 := bD) (Sl.all c6) (Sl.all c7) (Sl.all c8) (Sl.all de) (Sl.all df) (Sl.all dg) dh) ?_
        rintro hr hs ⟨rfl, di⟩
        obtain ⟨co, g0, g1, aR⟩ := adoptE bo (fun k => 1) di
        refine wY (ya z) z (nl (th (sq (rg (wY (ym z) z (wY (Y.neq_i z z) z (nl (th ?_))))))))
        rcases cnd h with ⟨a5, h⟩ | ⟨a5, h⟩
        ·refine WC.condT' z a5 (sq (rg (wY (ym z) z (wY (ym z) z (wY (yb (vals := [(1, vi S), (2, vi aQ)]) (cells := [sn, vi S, vi aQ]) (fe_ z) (by kernel_rfl)) z ?_)))))
         have dm := (((aO.st ac z).st U z).st aL z).st aR z
         refine WL.store (v := ag [sn, vi S, vi aQ]) (cells' := [sn, vi S, vi aQ]) ty29 z z dm z (le_ z) z z ?_
         intro dn cq dp
         refine nl (th (rt ?_))
         have h := outs1 h cc
         refine At.joinR (At.thenR (At.inBlockR ?_))
         have h := outs1 h a3
         refine At.joinR (At.thenR (At.loopR ?_))
         have h := outr1 h aP a2
         refine At.joinBR (At.inBlockR (At.thenR ?_))
         obtain rfl := some1 h
         have dr : Stp [11, 12, 13, 14, 1001, 1002, 1003] (Lg.O0 A) w co dn := (tr_ (su_ az z) (tr_ (su_ ac z) (tr_ (su_ U z) (tr_ (su_ aL z) (tr_ (su_ aR z) (su_ cq z))))))
         exact At.res (.inl z) z (.cell z (dp.runAg 0 [sn, vi S, vi aQ] ty29 z z z) .nil) ⟨sn, z, (se_ dr z z), (Or.inl ⟨z, z⟩)⟩
        ·refine WC.condF' z a5 (sk ?_)
         exact At.join (σ := Own) co ⟨go2 h, (tr_ (su_ aL z) (su_ aR z))⟩ (.cons z (.cons z (.cons z (.cons z (.cons z .nil)))))
       ·refine WC.condF' z bB (sk ?_)
        exact At.join (σ := Own) bo ⟨go2 h, (sr_ _ _ _)⟩ (.cons z (.cons z (.cons z (.cons z (.cons z .nil)))))
      ·rintro al hZ ⟨rfl, ai⟩
       replace h := flowK_go cc
       refine (show At _ _ _ [(0, v0), (1, vi a1), (4, pt ak 0), (5, aK), (6, vi S)] _ from ?_)
       refine th (sq (rg (wY (ym z) z ?_)))
       have aM := (bw.st U z z z).st ai z z z
       refine wY (Y.len ty22 z aM.src.sl) z ?_
       obtain ⟨aN, cr, h⟩ := lt1 h
       refine WL.yE (ya z) (congrArg vi cr.symm) z (nl (th (sq (WC.drawH [] [0, 1, 2, 3, 4, 5, 6, 7, 8, 9, 10, 11, 12, 13, 14, 15, 16, 17, 18, 19] al 20 fmix z (by kernel_rfl) ?_))))
       intro dt W
       refine WD.y 0 z (by kernel_rfl) (fun _ _ _ => ym z) z (WD.y 1 z (by kernel_rfl) (fun _ _ _ => Y.gtr_i z z) z (WD.y 2 z (by kernel_rfl) (fun _ _ _ => ym z) z ?_))
       obtain ⟨ge, h, du⟩ := bnd h
       refine WD.join (σ := Bool) (f' := 0) [19, 18, 17, 16, 15, 14, 13, 12, 11, 10, 9, 8, 7, 6, 5, 4, 3, 2, 1, 0] (fun x O' w' => x = ge ∧ dt = w' ∧ al = O') (fun x => [(0, v0), (1, vi a1), (4, pt ak 0), (5, aK), (6, vi S), (9, vi aN), (69, vB x)]) (fun bR => ?_) ?_
       ·rcases cnd h with ⟨aA, h⟩ | ⟨aA, h⟩
        ·refine WD.ren 52 z (congrArg vB aA) (WD.gT 3 z (by kernel_rfl) z z (fun _ _ _ => ym z) z (WD.gT 4 z (by kernel_rfl) z z (fun _ _ _ => ym z) z (WD.gT 5 z (by kernel_rfl) z z (fun _ _ _ => Y.sub_i z z) z ?_)))
         obtain ⟨bE, dw, h⟩ := bnd h
         have bS := aM.st W z z z
         obtain ⟨h0, hc, ht, bT, dx, dy, a6, cs⟩ := OwnSl.at bS dw
         obtain ⟨_, _, rfl, rfl, ⟨_, _, rfl, ⟨gf, rfl, hu⟩, ⟨_, _, rfl, rfl, ⟨_, _, rfl, rfl, ⟨_, _, rfl, rfl, ⟨_, _, rfl, rfl, ⟨_, _, rfl, rfl, ⟨_, _, rfl, rfl, ⟨_, _, rfl, rfl, ⟨_, _, rfl, rfl, ⟨_, _, rfl, ⟨_, _, rfl, rfl, ⟨_, _, rfl, rfl, ⟨_, _, rfl, ⟨_, _, rfl, rfl, ⟨gg, rfl, hv⟩⟩, ⟨_, _, rfl, rfl, ⟨gh, rfl, hw⟩⟩⟩⟩⟩, rfl⟩⟩⟩⟩⟩⟩⟩⟩⟩⟩⟩ := cs
         replace a6 : CellsAt _ _ _ (cp bE gf gg gh) := a6
         have ct := CAt.own bS bT a6
         refine WD.gT 6 z (by kernel_rfl) z z (fun _ _ _ => Y.indexAddr ty22 ty40 z bT z dx dy) z (WD.gT 7 z (by kernel_rfl) z z (fun _ _ _ => yf fo40_6 z) z (WD.gT 8 z (by kernel_rfl) z z (fun hx h1 cu => have dz := ct.st cu z; yl ty3 z z (dz.at_.sub 6 [vi bE.Time] z)) z (WD.gT 9 z (by kernel_rfl) z z (fun _ _ _ => ym z) z ?_)))
         obtain ⟨dA, h⟩ := chk1 h
         refine WD.gT 10 z (by kernel_rfl) z z (fun _ _ _ => Y.quo_i (ne_of_chk dA) z z) z (WD.gT 11 z (by kernel_rfl) z z (fun _ _ _ => ym z) z (WD.gT 12 z (by kernel_rfl) z z (fun _ _ _ => ym z) z ?_))
         obtain ⟨bF, dB, h⟩ := bnd h
         have dE := ((aC.i U z z).i ai z z).i W z z
         obtain ⟨h2, hd, he, hy, dF, dG, dH, a7, cv, dI⟩ := Sl.at2 dE dB
         obtain ⟨_, _, rfl, rfl, ⟨_, _, rfl, ⟨gi, rfl, hz⟩, ⟨_, _, rfl, rfl, ⟨_, _, rfl, rfl, ⟨_, _, rfl, rfl, ⟨_, _, rfl, rfl, ⟨_, _, rfl, rfl, ⟨_, _, rfl, rfl, ⟨_, _, rfl, rfl, ⟨_, _, rfl, rfl, ⟨_, _, rfl, ⟨_, _, rfl, rfl, ⟨_, _, rfl, rfl, ⟨_, _, rfl, ⟨_, _, rfl, rfl, ⟨gj, rfl, hA⟩⟩, ⟨_, _, rfl, rfl, ⟨gk, rfl, hC⟩⟩⟩⟩⟩, rfl⟩⟩⟩⟩⟩⟩⟩⟩⟩⟩⟩ := cv
         replace a7 : CellsAt _ _ _ (cp bF gi gj gk) := a7
         have cw := CAt.imm a7 dI
         refine WD.gT 13 z (by kernel_rfl) z z (fun _ _ _ => Y.indexAddr ty22 ty40 z dF z dG dH) z (WD.gT 14 z (by kernel_rfl) z z (fun _ _ _ => yf fo40_6 z) z (WD.gT 15 z (by kernel_rfl) z z (fun hD h3 cx => have dJ := cw.st cx z; yl ty3 z z (dJ.at_.sub 6 [vi bF.Time] z)) z (WD.gT 16 z (by kernel_rfl) z z (fun _ _ _ => ym z) z ?_)))
         obtain ⟨dK, h⟩ := chk1 h
         refine WD.gT 17 z (by kernel_rfl) z z (fun _ _ _ => Y.quo_i (ne_of_chk dK) z z) z (WD.gT 18 z (by kernel_rfl) z z (fun _ _ _ => Y.eql_i z z) z (WD.y 19 z (by kernel_rfl) (fun _ _ _ => Y.pick (b := true) z z) z (WD.ren 52 z (congrArg vB aA.symm) ?_)))
         exact bR (decide (w64 (bE.Time.tdiv a1) = w64 (bF.Time.tdiv a1))) _ _ _ ⟨some1 h, z, z⟩ (.cons z (.cons z (.cons z (.cons z (.cons z (.cons z (.cons z .nil)))))))
        ·refine WD.ren 52 z (congrArg vB aA) (WD.gS 3 z (by kernel_rfl) z z z z (WD.gS 4 z (by kernel_rfl) z z z z (WD.gS 5 z (by kernel_rfl) z z z z (WD.gS 6 z (by kernel_rfl) z z z z (WD.gS 7 z (by kernel_rfl) z z z z (WD.gS 8 z (by kernel_rfl) z z z z (WD.gS 9 z (by kernel_rfl) z z z z (WD.gS 10 z (by kernel_rfl) z z z z (WD.gS 11 z (by kernel_rfl) z z z z ?_)))))))))
         refine WD.gS 12 z (by kernel_rfl) z z z z (WD.gS 13 z (by kernel_rfl) z z z z (WD.gS 14 z (by kernel_rfl) z z z z (WD.gS 15 z (by kernel_rfl) z z z z (WD.gS 16 z (by kernel_rfl) z z z z (WD.gS 17 z (by kernel_rfl) z z z z (WD.gS 18 z (by kernel_rfl) z z z z (WD.y 19 z (by kernel_rfl) (fun _ _ _ => Y.pick (b := false) z z) z (WD.ren 52 z (congrArg vB aA.symm) ?_))))))))
         exact bR false _ _ _ ⟨some1 h, z, z⟩ (.cons z (.cons z (.cons z (.cons z (.cons z (.cons z (.cons z .nil)))))))
       ·rintro gl _ _ ⟨rfl, rfl, rfl⟩
        replace h := du
        try dsimp only at h
        refine (show WD _ _ _ _ _ _ _ _ [(0, v0), (1, vi a1), (4, pt ak 0), (5, aK), (6, vi S), (9, vi aN), (69, vB gl)] _ _ from ?_)
        refine WD.done_ (by kernel_rfl) (th ?_)
        rcases cnd h with ⟨a8, h⟩ | ⟨a8, h⟩
        ·refine WC.condT' z a8 (sq (WC.drawH [12, 13] [0, 1, 2, 3, 4, 5, 6, 7, 8, 9, 10] al 12 fmix z (by kernel_rfl) ?_))
         intro dL am
         refine WD.y 0 z (by kernel_rfl) (fun _ _ _ => ym z) z (WD.y 1 z (by kernel_rfl) (fun _ _ _ => ym z) z (WD.y 2 z (by kernel_rfl) (fun _ _ _ => Y.sub_i z z) z ?_))
         obtain ⟨aS, dM, h⟩ := bnd h
         have a9 := (aM.st W z z z).st am z z z
         obtain ⟨h4, hf, hE, bU, dO, dP, ba, cy⟩ := OwnSl.at a9 dM
         obtain ⟨_, _, rfl, rfl, ⟨_, _, rfl, ⟨bG, rfl, bW⟩, ⟨_, _, rfl, rfl, ⟨_, _, rfl, rfl, ⟨_, _, rfl, rfl, ⟨_, _, rfl, rfl, ⟨_, _, rfl, rfl, ⟨_, _, rfl, rfl, ⟨_, _, rfl, rfl, ⟨_, _, rfl, rfl, ⟨_, _, rfl, ⟨_, _, rfl, rfl, ⟨_, _, rfl, rfl, ⟨_, _, rfl, ⟨_, _, rfl, rfl, ⟨bH, rfl, bX⟩⟩, ⟨_, _, rfl, rfl, ⟨bI, rfl, bY⟩⟩⟩⟩⟩, rfl⟩⟩⟩⟩⟩⟩⟩⟩⟩⟩⟩ := cy
         replace ba : CellsAt _ _ _ (cp aS bG bH bI) := ba
         have cz := CAt.own a9 bU ba
         refine WD.y 3 z (by kernel_rfl) (fun _ _ _ => Y.indexAddr ty22 ty40 z bU z dO dP) z (WD.y 4 z (by kernel_rfl) (fun hF h5 cA => have dQ := cz.st cA z; yL ty40 z z dQ.at_ z) z (WD.y 5 z (by kernel_rfl) (fun _ _ _ => ym z) z (WD.y 6 z (by kernel_rfl) (fun _ _ _ => ym z) z ?_)))
         obtain ⟨aT, dR, h⟩ := bnd h
         have dV := (((aC.i U z z).i ai z z).i W z z).i am z z
         obtain ⟨h6, hg, hh, hG, dW, dX, dY, bb, cC, dZ⟩ := Sl.at2 dV dR
         obtain ⟨_, _, rfl, rfl, ⟨_, _, rfl, ⟨bJ, rfl, bZ⟩, ⟨_, _, rfl, rfl, ⟨_, _, rfl, rfl, ⟨_, _, rfl, rfl, ⟨_, _, rfl, rfl, ⟨_, _, rfl, rfl, ⟨_, _, rfl, rfl, ⟨_, _, rfl, rfl, ⟨_, _, rfl, rfl, ⟨_, _, rfl, ⟨_, _, rfl, rfl, ⟨_, _, rfl, rfl, ⟨_, _, rfl, ⟨_, _, rfl, rfl, ⟨bK, rfl, b0⟩⟩, ⟨_, _, rfl, rfl, ⟨bL, rfl, b1⟩⟩⟩⟩⟩, rfl⟩⟩⟩⟩⟩⟩⟩⟩⟩⟩⟩ := cC
         replace bb : CellsAt _ _ _ (cp aT bJ bK bL) := bb
         have cD := CAt.imm bb dZ
         refine WD.y 7 z (by kernel_rfl) (fun _ _ _ => Y.indexAddr ty22 ty40 z dW z dX dY) z (WD.y 8 z (by kernel_rfl) (fun hH h7 cE => have d0 := cD.st cE z; yL ty40 z z d0.at_ z) z ?_)
         obtain ⟨gm, h, d1⟩ := bnd h
         refine WD.join (σ := (List UInt8 × List api_Pair × Int × Int × Bool × Int × Int × Int × UInt64 × UInt64 × Int × UInt64 × Int × List UInt64 × Int × List UInt64 × Int × Int × Own × Nat × Value × Value × Value)) (f' := 1) [10, 9, 8, 7, 6, 5, 4, 3, 2, 1, 0] (fun x O' w' => (x.1, x.2.1, x.2.2.1, x.2.2.2.1, x.2.2.2.2.1, x.2.2.2.2.2.1, x.2.2.2.2.2.2.1, x.2.2.2.2.2.2.2.1, x.2.2.2.2.2.2.2.2.1, x.2.2.2.2.2.2.2.2.2.1, x.2.2.2.2.2.2.2.2.2.2.1, x.2.2.2.2.2.2.2.2.2.2.2.1, x.2.2.2.2.2.2.2.2.2.2.2.2.1, x.2.2.2.2.2.2.2.2.2.2.2.2.2.1, x.2.2.2.2.2.2.2.2.2.2.2.2.2.2.1, x.2.2.2.2.2.2.2.2.2.2.2.2.2.2.2.1, x.2.2.2.2.2.2.2.2.2.2.2.2.2.2.2.2.1, x.2.2.2.2.2.2.2.2.2.2.2.2.2.2.2.2.2.1) = gm ∧ Stp [12, 13] al dL x.2.2.2.2.2.2.2.2.2.2.2.2.2.2.2.2.2.2.1 w' ∧ Blk 1003 x.2.2.2.2.2.2.2.2.2.2.2.2.2.2.2.2.2.2.1 w' x.2.2.2.2.2.2.2.2.2.2.2.2.2.2.2.2.2.2.2.1 45 [vs [], sn, vi 0, vi 0, vB false, vi 0, vi 0, vi 0, vu 0, vu 0, vi 0, vu 0, vi 0, sn, vi 0, sn, vi 0, vi 0] ∧ Sl rep_api_Pair w' (imm x.2.2.2.2.2.2.2.2.2.2.2.2.2.2.2.2.2.2.1) x.2.2.2.2.2.2.2.2.2.2.2.2.2.2.2.2.2.2.2.2.1 x.2.1 ∧ Sl Rep.u w' (imm x.2.2.2.2.2.2.2.2.2.2.2.2.2.2.2.2.2.2.1) x.2.2.2.2.2.2.2.2.2.2.2.2.2.2.2.2.2.2.2.2.2.1 x.2.2.2.2.2.2.2.2.2.2.2.2.2.1 ∧ Sl Rep.u w' (imm x.2.2.2.2.2.2.2.2.2.2.2.2.2.2.2.2.2.2.1) x.2.2.2.2.2.2.2.2.2.2.2.2.2.2.2.2.2.2.2.2.2.2 x.2.2.2.2.2.2.2.2.2.2.2.2.2.2.2.1 ∧ x.2.2.2.2.2.2.2.2.2.2.2.2.2.2.2.2.2.2.1 = O') (fun x => [(0, v0), (1, vi a1), (4, pt ak 0), (5, aK), (6, vi S), (9, vi aN), (10, Value.pointer (some ⟨x.2.2.2.2.2.2.2.2.2.2.2.2.2.2.2.2.2.2.2.1, 0, none⟩)), (79, ag [vs x.1, x.2.2.2.2.2.2.2.2.2.2.2.2.2.2.2.2.2.2.2.2.1, vi x.2.2.1, vi x.2.2.2.1, vB x.2.2.2.2.1, vi x.2.2.2.2.2.1, vi x.2.2.2.2.2.2.1, vi x.2.2.2.2.2.2.2.1, vu x.2.2.2.2.2.2.2.2.1, vu x.2.2.2.2.2.2.2.2.2.1, vi x.2.2.2.2.2.2.2.2.2.2.1, vu x.2.2.2.2.2.2.2.2.2.2.2.1, vi x.2.2.2.2.2.2.2.2.2.2.2.2.1, x.2.2.2.2.2.2.2.2.2.2.2.2.2.2.2.2.2.2.2.2.2.1, vi x.2.2.2.2.2.2.2.2.2.2.2.2.2.2.1, x.2.2.2.2.2.2.2.2.2.2.2.2.2.2.2.2.2.2.2.2.2.2, vi x.2.2.2.2.2.2.2.2.2.2.2.2.2.2.2.2.1, vi x.2.2.2.2.2.2.2.2.2.2.2.2.2.2.2.2.2.1])]) (fun b2 => ?_) ?_
         ·refine WD.heavy2 9 10 z z (by kernel_rfl) ?_ ?_
          ·obtain ⟨l, d2, h⟩ := bnd h
           refine WL.call (vals := [ag (cp aS bG bH bI), ag (cp aT bJ bK bL)]) kok26 z z (c_ref36_together (A := imm al) (a0 := aS) (a1 := aT) bW bX bY bZ b0 b1 d2) ?_
           rintro hI bc ⟨cF, cG, cH, rfl, d3, gn, gp, gq⟩
           obtain ⟨bd, aD, aE, bp⟩ := adoptE al (fun k => 1) d3
           have d4 : Sl rep_api_Pair bc (imm bd) cF l.P.Attrs := Sl.adoptI (O := al) gn (fun _ hk => hk) (fun _ _ => Nat.le_refl _) aD aE
           have d5 : Sl Rep.u bc (imm bd) cG l.P.Hist.Pos.Counts := Sl.adoptI (O := al) gp (fun _ hk => hk) (fun _ _ => Nat.le_refl _) aD aE
           have d6 : Sl Rep.u bc (imm bd) cH l.P.Hist.Neg.Counts := Sl.adoptI (O := al) gq (fun _ hk => hk) (fun _ _ => Nat.le_refl _) aD aE
           refine nl (At.dq (su_ bp z) (WD.heavy 10 z (by kernel_rfl) (WL.alloc (O := bd) 12 [vs [], sn, vi 0, vi 0, vB false, vi 0, vi 0, vi 0, vu 0, vu 0, vi 0, vu 0, vi 0, sn, vi 0, sn, vi 0, vi 0] ty45 z z ?_)))
           intro gr h8 hJ an d7
           refine nl (At.dq (su_ an z) ?_)
           obtain ⟨gs, ao, d8⟩ := Blk.rlb 1003 rfl d7
           have ea := (d4.i an z z).i ao z z
           have ec := (d5.i an z z).i ao z z
           have ee := (d6.i an z z).i ao z z
           refine WD.own (su_ ao z) (WD.perm _ [10, 9, 8, 7, 6, 5, 4, 3, 2, 1, 0] (by kernel_rfl) ?_)
           exact b2 (l.P.Name, l.P.Attrs, l.P.Kind, l.P.Temp, l.P.Mono, l.P.Start, l.P.Time, l.P.Int_, l.P.Re, l.P.Im, l.P.Hist.Scale, l.P.Hist.Zero, l.P.Hist.Pos.Offset, l.P.Hist.Pos.Counts, l.P.Hist.Neg.Offset, l.P.Hist.Neg.Counts, l.P.Flags, l.E, gs, gr, cF, cG, cH) _ _ _ ⟨some1 h, (tr_ (su_ bp z) (tr_ (su_ an z) (su_ ao z))), d8, ea, ec, ee, z⟩ (.cons z (.cons z (.cons z (.cons z (.cons z (.cons z (.cons z (.cons z .nil))))))))
          ·try simp only [Option.bind_assoc] at h
           try simp only [Option.bind_some] at h
           refine WL.alloc (O := al) 13 [vs [], sn, vi 0, vi 0, vB false, vi 0, vi 0, vi 0, vu 0, vu 0, vi 0, vu 0, vi 0, sn, vi 0, sn, vi 0, vi 0] ty45 z z ?_
           intro gt aU hK ad ef
           refine nl (At.dq (su_ ad z) (WD.heavy 9 z (by kernel_rfl) ?_))
           have eg := bW.i ad z z
           have eh := bX.i ad z z
           have ei := bY.i ad z z
           have ej := bZ.i ad z z
           have ek := b0.i ad z z
           have em := b1.i ad z z
           obtain ⟨m, en, h⟩ := bnd h
           refine WL.call (vals := [ag (cp aS bG bH bI), ag (cp aT bJ bK bL)]) kok26 z z (c_ref36_together (A := imm aU) (a0 := aS) (a1 := aT) eg eh ei ej ek em en) ?_
           rintro hL bf ⟨cI, cJ, cK, rfl, eo, gu, gw, gz⟩
           obtain ⟨bM, aF, aG, aW⟩ := adoptE aU (fun k => 1) eo
           have ep : Sl rep_api_Pair bf (imm bM) cI m.P.Attrs := Sl.adoptI (O := aU) gu (fun _ hk => hk) (fun _ _ => Nat.le_refl _) aF aG
           have er : Sl Rep.u bf (imm bM) cJ m.P.Hist.Pos.Counts := Sl.adoptI (O := aU) gw (fun _ hk => hk) (fun _ _ => Nat.le_refl _) aF aG
           have es : Sl Rep.u bf (imm bM) cK m.P.Hist.Neg.Counts := Sl.adoptI (O := aU) gz (fun _ hk => hk) (fun _ _ => Nat.le_refl _) aF aG
           refine nl (At.dq (su_ aW z) ?_)
           have et := ef.st aW z
           obtain ⟨gB, ap, eu⟩ := Blk.rlb 1003 rfl et
           have ew := ep.i ap z z
           have ex := er.i ap z z
           have ey := es.i ap z z
           refine WD.own (su_ ap z) (WD.perm _ [10, 9, 8, 7, 6, 5, 4, 3, 2, 1, 0] (by kernel_rfl) ?_)
           exact b2 (m.P.Name, m.P.Attrs, m.P.Kind, m.P.Temp, m.P.Mono, m.P.Start, m.P.Time, m.P.Int_, m.P.Re, m.P.Im, m.P.Hist.Scale, m.P.Hist.Zero, m.P.Hist.Pos.Offset, m.P.Hist.Pos.Counts, m.P.Hist.Neg.Offset, m.P.Hist.Neg.Counts, m.P.Flags, m.E, gB, gt, cI, cJ, cK) _ _ _ ⟨some1 h, (tr_ (su_ ad z) (tr_ (su_ aW z) (su_ ap z))), eu, ew, ex, ey, z⟩ (.cons z (.cons z (.cons z (.cons z (.cons z (.cons z (.cons z (.cons z .nil))))))))
         ·rintro ⟨aj, gC, ah, af, ab, aa, Z, V, T, G, D, n, d, gE, j, gG, F, aq, cL, gH, gI, gJ, gK⟩ _ hM ⟨rfl, ar, b3, bg, bh, bi, rfl⟩
          replace h := d1
          try dsimp only at h ar b3 bg bh bi
          refine (show WD _ _ _ _ _ _ _ _ [(0, v0), (1, vi a1), (4, pt ak 0), (5, aK), (6, vi S), (9, vi aN), (10, pt gH 0), (79, ag [vs aj, gI, vi ah, vi af, vB ab, vi aa, vi Z, vi V, vu T, vu G, vi D, vu n, vi d, gJ, vi j, gK, vi F, vi aq])] _ _ from ?_)
          refine WD.phase [1003] [0, 1, 2, 3, 4, 5, 6, 7, 8, 9, 10, 11] (by kernel_rfl) (by kernel_rfl) (WD.heavy 11 z (by kernel_rfl) ?_)
          have ez := h
          obtain ⟨au, av, ax, rfl⟩ := bg.shape
          have h := ez
          have eA := h
          obtain ⟨o, p, q, rfl⟩ := bh.shape
          have h := eA
          have eB := h
          obtain ⟨r, t, C, rfl⟩ := bi.shape
          have h := eB
          refine WL.store (v := ag [vs aj, (vl au av ax), vi ah, vi af, vB ab, vi aa, vi Z, vi V, vu T, vu G, vi D, vu n, vi d, (vl o p q), vi j, (vl r t C), vi F, vi aq]) (cells' := [vs aj, (vl au av ax), vi ah, vi af, vB ab, vi aa, vi Z, vi V, vu T, vu G, vi D, vu n, vi d, (vl o p q), vi j, (vl r t C), vi F, vi aq]) ty45 z z b3 z (le_ z) z z ?_
          intro eC ae bj
          refine nl (At.dq (su_ ae z) (WD.done_ (by kernel_rfl) (th (sq (sq (rg (wY (yf fo45_1 z) z (wY (yl ty25 z z (bj.cell 17 _ z)) z (wY (Y.neq_i z z) z ?_)))))))))
          refine nl (th ?_)
          rcases cnd h with ⟨bk, h⟩ | ⟨bk, h⟩
          ·refine WC.condT' z bk (sq (rg (wY (ym z) z (wY (yf fo45_1 z) z (wY (yl ty25 z z (bj.cell 17 _ z)) z (wY (yb (vals := [(1, vi S), (2, vi aq)]) (cells := [sn, vi S, vi aq]) (fe_ z) (by kernel_rfl)) z ?_))))))
           have eJ := ((((((aO.st ac z).st U z).st ai z).st W z).st am z).st ar z).st ae z
           refine WL.store (v := ag [sn, vi S, vi aq]) (cells' := [sn, vi S, vi aq]) ty29 z z eJ z (le_ z) z z ?_
           intro eK cM eL
           refine nl (th (rt (At.thenR (At.inBlockR ?_))))
           have h := outs1 h a3
           refine At.joinR (At.thenR (At.loopR ?_))
           have h := outr1 h aP a2
           refine At.joinBR (At.inBlockR (At.thenR ?_))
           obtain rfl := some1 h
           have eM : Stp [11, 12, 13, 14, 1001, 1002, 1003] (Lg.O0 A) w cL eK := (tr_ (su_ az z) (tr_ (su_ ac z) (tr_ (su_ U z) (tr_ (su_ ai z) (tr_ (su_ W z) (tr_ (su_ am z) (tr_ (su_ ar z) (tr_ (su_ ae z) (su_ cM z)))))))))
           exact At.res (.inl z) z (.cell z (eL.runAg 0 [sn, vi S, vi aq] ty29 z z z) .nil) ⟨sn, z, (se_ eM z z), (Or.inl ⟨z, z⟩)⟩
          ·refine WC.condF' z bk (sk (th (sq (rg (wY (ya z) z (nl (th (sq (rg ?_)))))))))
           refine wY (ym z) z (wY (ym z) z (wY (ym z) z (wY (Y.sub_i z z) z ?_)))
           obtain ⟨h9, eN, h⟩ := bnd h
           have eP := (a9.st ar z z z).st ae z z z
           refine WL.sliceOwn ty22 ty40 z z z eP eN z ?_
           intro ia eQ
           obtain ⟨hN, cN, h⟩ := bnd h
           have eR := OwnSl.nil (O := cL) (w := eC) 14 rep_api_Point 40
           refine WL.append (by decide) ty22 ty40 z (by decide) z z eR eQ.src cN z ?_
           intro ib gL hO ay eS
           refine wY (ya z) z (nl (th (rg (wY (ym z) z (wY (yf fo45_0 z) z ?_)))))
           have eT := bj.st ay z
           refine wY (yL ty40 z z (eT.cells 0 [vs aj, (vl au av ax), vi ah, vi af, vB ab, vi aa, vi Z, vi V, vu T, vu G, vi D, vu n, vi d, (vl o p q), vi j, (vl r t C), vi F] z) z) z ?_
           have eV := (bg.i ae z z).i ay z z
           have eX := (bh.i ae z z).i ay z z
           have eZ := (bi.i ae z z).i ay z z
           refine WL.buildSlice (O := gL) (R := rep_api_Point) (vals := [(0, ag [vs aj, (vl au av ax), vi ah, vi af, vB ab, vi aa, vi Z, vi V, vu T, vu G, vi D, vu n, vi d, (vl o p q), vi j, (vl r t C), vi F])]) 15 [vs aj, (vl au av ax), vi ah, vi af, vB ab, vi aa, vi Z, vi V, vu T, vu G, vi D, vu n, vi d, (vl o p q), vi j, (vl r t C), vi F] (xs := [(api_Point.mk aj gC ah af ab aa Z V T G (api_Hist.mk D n (api_Side.mk d gE) (api_Side.mk j gG)) F)]) (by decide) ty22 ty40 (by decide) (by decide) (fe_ z) (by kernel_rfl) z ⟨[vs aj, (vl au av ax), vi ah, vi af, vB ab, vi aa, vi Z, vi V, vu T, vu G, vi D, vu n, vi d, (vl o p q), vi j, (vl r t C), vi F], [], z, ⟨[vs aj], [(vl au av ax), vi ah, vi af, vB ab, vi aa, vi Z, vi V, vu T, vu G, vi D, vu n, vi d, (vl o p q), vi j, (vl r t C), vi F], z, z, ⟨[(vl au av ax)], [vi ah, vi af, vB ab, vi aa, vi Z, vi V, vu T, vu G, vi D, vu n, vi d, (vl o p q), vi j, (vl r t C), vi F], z, ⟨_, z, eV⟩, ⟨[vi ah], [vi af, vB ab, vi aa, vi Z, vi V, vu T, vu G, vi D, vu n, vi d, (vl o p q), vi j, (vl r t C), vi F], z, z, ⟨[vi af], [vB ab, vi aa, vi Z, vi V, vu T, vu G, vi D, vu n, vi d, (vl o p q), vi j, (vl r t C), vi F], z, z, ⟨[vB ab], [vi aa, vi Z, vi V, vu T, vu G, vi D, vu n, vi d, (vl o p q), vi j, (vl r t C), vi F], z, z, ⟨[vi aa], [vi Z, vi V, vu T, vu G, vi D, vu n, vi d, (vl o p q), vi j, (vl r t C), vi F], z, z, ⟨[vi Z], [vi V, vu T, vu G, vi D, vu n, vi d, (vl o p q), vi j, (vl r t C), vi F], z, z, ⟨[vi V], [vu T, vu G, vi D, vu n, vi d, (vl o p q), vi j, (vl r t C), vi F], z, z, ⟨[vu T], [vu G, vi D, vu n, vi d, (vl o p q), vi j, (vl r t C), vi F], z, z, ⟨[vu G], [vi D, vu n, vi d, (vl o p q), vi j, (vl r t C), vi F], z, z, ⟨[vi D, vu n, vi d, (vl o p q), vi j, (vl r t C)], [vi F], z, ⟨[vi D], [vu n, vi d, (vl o p q), vi j, (vl r t C)], z, z, ⟨[vu n], [vi d, (vl o p q), vi j, (vl r t C)], z, z, ⟨[vi d, (vl o p q)], [vi j, (vl r t C)], z, ⟨[vi d], [(vl o p q)], z, z, ⟨_, z, eX⟩⟩, ⟨[vi j], [(vl r t C)], z, z, ⟨_, z, eZ⟩⟩⟩⟩⟩, z⟩⟩⟩⟩⟩⟩⟩⟩⟩⟩⟩, z⟩ z ?_
           intro ic ie hP bq e0
           obtain ⟨e1, cO, h⟩ := bnd h
           have e2 := eS.st bq z z z
           refine WL.append (by decide) ty22 ty40 z (by decide) z z e2 e0.src cO z ?_
           intro gM ig hQ cP e5
           refine wY (ya z) z (nl (At.inBlock ?_))
           obtain ⟨gO, cQ, e6⟩ := OwnSl.rlb 1001 rfl e5
           exact At.join (σ := (List api_Point × Own × Value)) (e1, gO, gM) ⟨go2 h, (tr_ (su_ U z) (tr_ (su_ ai z) (tr_ (su_ W z) (tr_ (su_ am z) (tr_ (su_ ar z) (tr_ (su_ ae z) (tr_ (su_ ay z) (tr_ (su_ bq z) (tr_ (su_ cP z) (su_ cQ z)))))))))), e6⟩ (.cons z (.cons z (.cons z (.cons z (.cons z .nil)))))
        ·refine WC.condF' z a8 (rg (wY (ym z) z (wY (ym z) z (wY (ym z) z ?_))))
         obtain ⟨c, e7, h⟩ := bnd h
         have fa := ((aC.i U z z).i ai z z).i W z z
         obtain ⟨ih, hi, hj, hR, fc, fd, fe, bl, cR, ff⟩ := Sl.at2 fa e7
         obtain ⟨_, _, rfl, rfl, ⟨_, _, rfl, ⟨gP, rfl, b4⟩, ⟨_, _, rfl, rfl, ⟨_, _, rfl, rfl, ⟨_, _, rfl, rfl, ⟨_, _, rfl, rfl, ⟨_, _, rfl, rfl, ⟨_, _, rfl, rfl, ⟨_, _, rfl, rfl, ⟨_, _, rfl, rfl, ⟨_, _, rfl, ⟨_, _, rfl, rfl, ⟨_, _, rfl, rfl, ⟨_, _, rfl, ⟨_, _, rfl, rfl, ⟨gQ, rfl, b5⟩⟩, ⟨_, _, rfl, rfl, ⟨gR, rfl, b6⟩⟩⟩⟩⟩, rfl⟩⟩⟩⟩⟩⟩⟩⟩⟩⟩⟩ := cR
         replace bl : CellsAt _ _ _ (cp c gP gQ gR) := bl
         have cS := CAt.imm bl ff
         refine wY (Y.indexAddr ty22 ty40 z fc z fd fe) z (wY (yL ty40 z z cS.at_ z) z ?_)
         have fg := h
         obtain ⟨aX, aY, aZ, rfl⟩ := b4.shape
         have h := fg
         have fh := h
         obtain ⟨H, I, J, rfl⟩ := b5.shape
         have h := fh
         have fi := h
         obtain ⟨K, M, Q, rfl⟩ := b6.shape
         have h := fi
         refine WL.buildSlice (O := al) (R := rep_api_Point) (vals := [(0, ag (cp c (vl aX aY aZ) (vl H I J) (vl K M Q)))]) 16 (cp c (vl aX aY aZ) (vl H I J) (vl K M Q)) (xs := [c]) (by decide) ty22 ty40 (by decide) (by decide) (fe_ z) (by kernel_rfl) z ⟨(cp c (vl aX aY aZ) (vl H I J) (vl K M Q)), [], z, ⟨[vs c.Name], [(vl aX aY aZ), vi c.Kind, vi c.Temp, vB c.Mono, vi c.Start, vi c.Time, vi c.Int_, vu c.Re, vu c.Im, vi c.Hist.Scale, vu c.Hist.Zero, vi c.Hist.Pos.Offset, (vl H I J), vi c.Hist.Neg.Offset, (vl K M Q), vi c.Flags], z, z, ⟨[(vl aX aY aZ)], [vi c.Kind, vi c.Temp, vB c.Mono, vi c.Start, vi c.Time, vi c.Int_, vu c.Re, vu c.Im, vi c.Hist.Scale, vu c.Hist.Zero, vi c.Hist.Pos.Offset, (vl H I J), vi c.Hist.Neg.Offset, (vl K M Q), vi c.Flags], z, ⟨_, z, b4⟩, ⟨[vi c.Kind], [vi c.Temp, vB c.Mono, vi c.Start, vi c.Time, vi c.Int_, vu c.Re, vu c.Im, vi c.Hist.Scale, vu c.Hist.Zero, vi c.Hist.Pos.Offset, (vl H I J), vi c.Hist.Neg.Offset, (vl K M Q), vi c.Flags], z, z, ⟨[vi c.Temp], [vB c.Mono, vi c.Start, vi c.Time, vi c.Int_, vu c.Re, vu c.Im, vi c.Hist.Scale, vu c.Hist.Zero, vi c.Hist.Pos.Offset, (vl H I J), vi c.Hist.Neg.Offset, (vl K M Q), vi c.Flags], z, z, ⟨[vB c.Mono], [vi c.Start, vi c.Time, vi c.Int_, vu c.Re, vu c.Im, vi c.Hist.Scale, vu c.Hist.Zero, vi c.Hist.Pos.Offset, (vl H I J), vi c.Hist.Neg.Offset, (vl K M Q), vi c.Flags], z, z, ⟨[vi c.Start], [vi c.Time, vi c.Int_, vu c.Re, vu c.Im, vi c.Hist.Scale, vu c.Hist.Zero, vi c.Hist.Pos.Offset, (vl H I J), vi c.Hist.Neg.Offset, (vl K M Q), vi c.Flags], z, z, ⟨[vi c.Time], [vi c.Int_, vu c.Re, vu c.Im, vi c.Hist.Scale, vu c.Hist.Zero, vi c.Hist.Pos.Offset, (vl H I J), vi c.Hist.Neg.Offset, (vl K M Q), vi c.Flags], z, z, ⟨[vi c.Int_], [vu c.Re, vu c.Im, vi c.Hist.Scale, vu c.Hist.Zero, vi c.Hist.Pos.Offset, (vl H I J), vi c.Hist.Neg.Offset, (vl K M Q), vi c.Flags], z, z, ⟨[vu c.Re], [vu c.Im, vi c.Hist.Scale, vu c.Hist.Zero, vi c.Hist.Pos.Offset, (vl H I J), vi c.Hist.Neg.Offset, (vl K M Q), vi c.Flags], z, z, ⟨[vu c.Im], [vi c.Hist.Scale, vu c.Hist.Zero, vi c.Hist.Pos.Offset, (vl H I J), vi c.Hist.Neg.Offset, (vl K M Q), vi c.Flags], z, z, ⟨(hl c.Hist (vl H I J) (vl K M Q)), [vi c.Flags], z, ⟨[vi c.Hist.Scale], [vu c.Hist.Zero, vi c.Hist.Pos.Offset, (vl H I J), vi c.Hist.Neg.Offset, (vl K M Q)], z, z, ⟨[vu c.Hist.Zero], [vi c.Hist.Pos.Offset, (vl H I J), vi c.Hist.Neg.Offset, (vl K M Q)], z, z, ⟨[vi c.Hist.Pos.Offset, (vl H I J)], [vi c.Hist.Neg.Offset, (vl K M Q)], z, ⟨[vi c.Hist.Pos.Offset], [(vl H I J)], z, z, ⟨_, z, b5⟩⟩, ⟨[vi c.Hist.Neg.Offset], [(vl K M Q)], z, z, ⟨_, z, b6⟩⟩⟩⟩⟩, z⟩⟩⟩⟩⟩⟩⟩⟩⟩⟩⟩, z⟩ z ?_
         intro ii ij hS br fj
         obtain ⟨fk, cT, h⟩ := bnd h
         have fm := (aM.st W z z z).st br z z z
         refine WL.append (by decide) ty22 ty40 z (by decide) z z fm fj.src cT z ?_
         intro gU ik hT cU fn
         refine wY (ya z) z (nl (At.inBlock ?_))
         obtain ⟨gV, cV, fo⟩ := OwnSl.rlb 1001 rfl fn
         exact At.join (σ := (List api_Point × Own × Value)) (fk, gV, gU) ⟨go2 h, (tr_ (su_ U z) (tr_ (su_ ai z) (tr_ (su_ W z) (tr_ (su_ br z) (tr_ (su_ cU z) (su_ cV z)))))), fo⟩ (.cons z (.cons z (.cons z (.cons z (.cons z .nil)))))
    ·rintro ⟨fp, ir, fI⟩ il ⟨rfl, b7, cW⟩
     replace h := flowK_go a3
     try dsimp only at h b7 cW
     refine (show At _ _ _ [(0, v0), (1, vi a1), (4, pt ak 0), (5, fI), (6, vi S)] _ from ?_)
     refine th (rg (wY (ym z) z (wY (Y.add_i z z) z ?_)))
     obtain ⟨gW, fq, h⟩ := lt1 h
     refine WL.yE (ya z) (congrArg vi fq.symm) z (nl ?_)
     obtain ⟨gX, cX, fs⟩ := OwnSl.rlb 1002 rfl cW
     exact At.round (fp, gW, gX, fI) g2 (Nat.lt_succ_self _) ⟨next1 h aP, (tr_ (su_ ac z) (tr_ (su_ b7 z) (su_ cX z))), fs⟩ (.cons z (.cons z (.cons z (.cons z (.cons z .nil)))))
   ·refine WC.condF' z bx (WC.exit (At.thenX (At.loopX ?_)))
    obtain ⟨gY, cY, ft⟩ := OwnSl.rlb 1004 rfl bw
    exact At.hitB (σ := (List api_Point × Own × Value)) (c0, gY, aK) ⟨brk1 h aP, (tr_ (su_ ac z) (su_ cY z)), ft⟩ (.cons z (.cons z .nil))
  ·rintro ⟨hU, it, hm⟩ im ⟨rfl, bm, bO⟩
   replace h := flowK_go a2
   try dsimp only at h bm bO
   refine (show At _ _ _ [(4, pt ak 0), (5, hm)] _ from ?_)
   refine At.inBlockHit (th (sq (rg (wY (ym z) z ?_))))
   have fu := h
   obtain ⟨aH, aI, aJ, rfl⟩ := bO.shape
   have h := fu
   refine wY (yb (vals := [(0, (vl aH aI aJ))]) (cells := [(vl aH aI aJ), vi 0, vi 0]) (fe_ z) (by kernel_rfl)) z ?_
   have fv := aO.st bm z
   refine WL.store (v := ag [(vl aH aI aJ), vi 0, vi 0]) (cells' := [(vl aH aI aJ), vi 0, vi 0]) ty29 z z fv z (le_ z) z z ?_
   intro fw bs fx
   refine nl (th (rt ?_))
   obtain rfl := some1 h
   have fy := bO.st bs z z z
   obtain ⟨gZ, bt, fz⟩ := OwnSl.give rfl fy
   have b8 : Stp [11, 12, 13, 14, 1001, 1002, 1003, 1004] (Lg.O0 A) w gZ fw := (tr_ (su_ az z) (tr_ (su_ bm z) (tr_ (su_ bs z) (su_ bt z))))
   have fA := fx.st bt z
   exact At.res (.inl z) z (.cell z (fA.runAg 0 [(vl aH aI aJ), vi 0, vi 0] ty29 z z z) .nil) ⟨(vl aH aI aJ), z, (se_ b8 z z), (Sl.outI fz b8 low0 O0_A)⟩
theorem c_ref11_Same {A : Nat → Prop} {a0 : List api_Pair} {v0 : Value} {a1 : List api_Pair} {v1 : Value} {w : World} (hs0 : Sl rep_api_Pair w A v0 a0) (hs1 : Sl rep_api_Pair w A v1 a1) {r0 : Bool} (h : ref11_Same a0 a1 = some r0) : Rets Tryz.prog 29 [v0, v1] w (fun v w' => v = vB r0 ∧ Ext w w') := by
 unfold ref11_Same at h
 refine Rets.enter Tryz.func29 z z ?_
 have C : Sl rep_api_Pair w (imm (Lg.O0 A)) v0 a0 := (Sl.start hs0)
 have D : Sl rep_api_Pair w (imm (Lg.O0 A)) v1 a1 := (Sl.start hs1)
 refine (show WC _ _ _ _ [(0, v0), (1, v1)] _ from ?_)
 refine sq (rg (wY (ya z) z (nl (th (sq (sq (rg (wY (ym z) z (wY (Y.len ty32 z C) z ?_)))))))))
 refine wY (ym z) z (wY (Y.len ty32 z D) z (wY (Y.neq_i z z) z (nl (th ?_))))
 rcases cnd h with ⟨j, h⟩ | ⟨j, h⟩
 ·refine WC.condT' z j (sq (rg (wY (ya z) z (nl (th (rt (At.thenR ?_)))))))
  obtain rfl := some1 h
  have T : Stp [] (Lg.O0 A) w (Lg.O0 A) w := (sr_ _ _ _)
  exact At.res (.inl z) z (.tmp z .nil) ⟨z, (se_ T z z)⟩
 ·refine WC.condF' z j (sk (th (sq (sq (rg (wY (ya z) z (nl (th (WC.block ?_)))))))))
  obtain ⟨Q, h, F⟩ := flow1 h
  obtain ⟨S, h⟩ := loop_some h
  refine WC.joinB 0 (σ := Own) (fun x w' => Q = .go () ∧ Stp [] (Lg.O0 A) w x w') (fun x => []) ?_ ?_
  ·refine WC.loop (σ := (Int × Own)) (fun x k w' => loopN k (ref11_Same_lp1 a0 a1) x.1 = some Q ∧ Stp [] (Lg.O0 A) w x.2 w') (fun x => [(0, v0), (1, v1), (5, vi x.1)]) (0, (Lg.O0 A)) S (.cons z (.cons z (.cons z .nil))) ⟨h, (sr_ _ _ _)⟩ ?_
   rintro ⟨ap, q⟩ S aA ⟨h, c⟩
   obtain ⟨aq, aE, rfl, h, l⟩ := rnd1 h
   unfold ref11_Same_lp1 at h
   try dsimp only at h c
   refine (show WC _ _ _ _ [(0, v0), (1, v1), (5, vi ap)] _ from ?_)
   refine sq (sq (rg (wY (ym z) z (wY (ym z) z ?_))))
   have G := C.i c z z
   refine wY (Y.len ty32 z G) z (wY (Y.lss_i z z) z (nl (th ?_)))
   rcases cnd h with ⟨m, h⟩ | ⟨m, h⟩
   ·refine WC.condT' z m (sk (th (sq (WC.block (sq (WC.draw 8 q fmix (by kernel_rfl) ?_))))))
    intro U d
    refine WS.y (ym z) z (WS.y (ym z) z ?_)
    obtain ⟨r, V, h⟩ := bnd h
    have W := G.i d z z
    obtain ⟨aF, av, ax, aC, Z, aa, ab, n, H, ac⟩ := Sl.at2 W V
    obtain ⟨_, _, rfl, rfl, rfl⟩ := H
    replace n : CellsAt _ _ _ [vs r.Key, vs r.Val] := n
    have I := CAt.imm n ac
    refine WS.y (Y.indexAddr ty32 ty67 z Z z aa ab) z (WS.y (yL ty67 z z I.at_ z) z (WS.y (ym z) z (WS.y (ym z) z ?_)))
    obtain ⟨t, ad, h⟩ := bnd h
    have af := (D.i c z z).i d z z
    obtain ⟨aG, ay, az, aD, ah, ai, aj, o, J, ak⟩ := Sl.at2 af ad
    obtain ⟨_, _, rfl, rfl, rfl⟩ := J
    replace o : CellsAt _ _ _ [vs t.Key, vs t.Val] := o
    have K := CAt.imm o ak
    refine WS.y (Y.indexAddr ty32 ty67 z ah z ai aj) z (WS.y (yL ty67 z z K.at_ z) z (WS.tail (wY (Y.neq_ag agok67 z z (EqF.cons (by decide) (fun w => run_part_plain w (by kernel_rfl) z) (fun w => run_part_plain w (by kernel_rfl) z) (EqV.s (a := r.Key) (b := t.Key) ty9.u) (EqF.cons (by decide) (fun w => run_part_plain w (by kernel_rfl) z) (fun w => run_part_plain w (by kernel_rfl) z) (EqV.s (a := r.Val) (b := t.Val) ty9.u) EqF.nil))) z (nl (th ?_)))))
    rcases cnd h with ⟨p, h⟩ | ⟨p, h⟩
    ·refine WC.condT' z p (sq (rg (wY (ya z) z (nl (th (rt (At.inBlockR (At.thenR (At.loopR ?_)))))))))
     have h := outr1 h l F
     refine At.joinBR (At.inBlockR (At.thenR ?_))
     obtain rfl := some1 h
     have al : Stp [] (Lg.O0 A) w q U := (tr_ (su_ c z) (su_ d z))
     exact At.res (.inl z) z (.tmp z .nil) ⟨z, (se_ al z z)⟩
    ·refine WC.condF' z p (sk (At.inBlock (th (rg (wY (ym z) z (wY (Y.add_i z z) z ?_))))))
     obtain ⟨ar, am, h⟩ := lt1 h
     refine WL.yE (ya z) (congrArg vi am.symm) z (nl ?_)
     exact At.round (ar, q) aq (Nat.lt_succ_self _) ⟨next1 h l, (tr_ (su_ c z) (su_ d z))⟩ (.cons z (.cons z (.cons z .nil)))
   ·refine WC.condF' z m (WC.exit (At.thenX (At.loopX ?_)))
    exact At.hitB (σ := Own) q ⟨brk1 h l, (su_ c z)⟩ .nil
  ·rintro au an ⟨rfl, M⟩
   replace h := flowK_go F
   refine (show At _ _ _ [] _ from ?_)
   refine At.inBlockHit (th (sq (rg (wY (ya z) z (nl (th (rt ?_)))))))
   obtain rfl := some1 h
   have ao : Stp [] (Lg.O0 A) w au an := (su_ M z)
   exact At.res (.inl z) z (.tmp z .nil) ⟨z, (se_ ao z z)⟩
theorem c_ref12_Same {A : Nat → Prop} {v0_1 : Value} {v0_13 : Value} {v0_15 : Value} {a0 : api_Point} {v1_1 : Value} {v1_13 : Value} {v1_15 : Value} {a1 : api_Point} {w : World} (hs0_1 : Sl rep_api_Pair w A v0_1 a0.Attrs) (hs0_13 : Sl Rep.u w A v0_13 a0.Hist.Pos.Counts) (hs0_15 : Sl Rep.u w A v0_15 a0.Hist.Neg.Counts) (hs1_1 : Sl rep_api_Pair w A v1_1 a1.Attrs) (hs1_13 : Sl Rep.u w A v1_13 a1.Hist.Pos.Counts) (hs1_15 : Sl Rep.u w A v1_15 a1.Hist.Neg.Counts) {r0 : Bool} (h : ref12_Same a0 a1 = some r0) : Rets Tryz.prog 14 [ag (cp a0 v0_1 v0_13 v0_15), ag (cp a1 v1_1 v1_13 v1_15)] w (fun v w' => v = vB r0 ∧ Ext w w') := by
 unfold ref12_Same at h
 refine Rets.enter Tryz.func14 z z ?_
 have af : Sl rep_api_Pair w (imm (Lg.O0 A)) v0_1 a0.Attrs := (Sl.start hs0_1)
 have ah : Sl Rep.u w (imm (Lg.O0 A)) v0_13 a0.Hist.Pos.Counts := (Sl.start hs0_13)
 have ai : Sl Rep.u w (imm (Lg.O0 A)) v0_15 a0.Hist.Neg.Counts := (Sl.start hs0_15)
 have bD : Sl rep_api_Pair w (imm (Lg.O0 A)) v1_1 a1.Attrs := (Sl.start hs1_1)
 have bE : Sl Rep.u w (imm (Lg.O0 A)) v1_13 a1.Hist.Pos.Counts := (Sl.start hs1_13)
 have bF : Sl Rep.u w (imm (Lg.O0 A)) v1_15 a1.Hist.Neg.Counts := (Sl.start hs1_15)
 refine (show WC _ _ _ _ [(0, ag (cp a0 v0_1 v0_13 v0_15)), (1, ag (cp a1 v1_1 v1_13 v1_15))] _ from ?_)
 refine sq (rg ?_)
 have bG := h
 obtain ⟨bw, bx, bz, rfl⟩ := af.shape
 have h := bG
 have bH := h
 obtain ⟨aj, ak, al, rfl⟩ := ah.shape
 have h := bH
 have bI := h
 obtain ⟨am, an, ao, rfl⟩ := ai.shape
 have h := bI
 refine WL.box (O := (Lg.O0 A)) 11 (cp a0 (vl bw bx bz) (vl aj ak al) (vl am an ao)) z z z ?_
 intro n cf cn p aa
 have ap := bD.i p z z
 have bJ := h
 obtain ⟨bA, bB, bC, rfl⟩ := ap.shape
 have h := bJ
 have aq := bE.i p z z
 have bK := h
 obtain ⟨ar, au, av, rfl⟩ := aq.shape
 have h := bK
 have ax := bF.i p z z
 have bL := h
 obtain ⟨ay, az, aA, rfl⟩ := ax.shape
 have h := bL
 refine WL.box (O := cf) 12 (cp a1 (vl bA bB bC) (vl ar au av) (vl ay az aA)) z z z ?_
 intro o ac co d ab
 refine wY (ya z) z (nl (th (sq (sq (WC.drawH [] [0, 1, 2, 3, 4, 5, 6, 7, 8, 9, 10, 11, 12, 13, 14] ac 15 fmix z (by kernel_rfl) ?_)))))
 intro bM c
 refine WD.y 0 z (by kernel_rfl) (fun _ _ _ => yf fo40_0 z) z (WD.y 1 z (by kernel_rfl) (fun cq cu aH => have bO := aa.st d z; have bP := bO.st c z; have bQ := bP.st aH z; yl ty9 z z (bQ.cell 0 _ z)) z (WD.y 2 z (by kernel_rfl) (fun _ _ _ => yf fo40_0 z) z (WD.y 3 z (by kernel_rfl) (fun cr cv aI => have bR := ab.st c z; have bS := bR.st aI z; yl ty9 z z (bS.cell 0 _ z)) z (WD.y 4 z (by kernel_rfl) (fun _ _ _ => Y.neq_s z z) z (WD.y 5 z (by kernel_rfl) (fun _ _ _ => ym z) z ?_)))))
 obtain ⟨cg, h, bT⟩ := bnd h
 refine WD.join (σ := (Bool × Own)) (f' := 0) [14, 13, 12, 11, 8, 10, 9, 7, 6, 5, 4, 3, 2, 1, 0] (fun x O' w' => x.1 = cg ∧ Stp [] ac bM x.2 w' ∧ x.2 = O') (fun x => [(2, pt n 0), (3, pt o 0), (19, vB x.1)]) (fun aC => ?_) ?_
 ·rcases cnd h with ⟨r, h⟩ | ⟨r, h⟩
  ·refine WD.ren 10 z (congrArg vB r) (WD.gS 6 z (by kernel_rfl) z z z z (WD.gS 7 z (by kernel_rfl) z z z z (WD.gS 9 z (by kernel_rfl) z z z z (WD.gS 10 z (by kernel_rfl) z z z z (WD.heavy 8 z (by kernel_rfl) (WL.gS z z z z (nl (At.dq (sr_ _ _ _) (WD.heavy 11 z (by kernel_rfl) ?_)))))))))
   refine WL.gS z z z z (nl (At.dq (sr_ _ _ _) (WD.heavy 12 z (by kernel_rfl) (WL.gS z z z z (nl (At.dq (sr_ _ _ _) (WD.gS 13 z (by kernel_rfl) z z z z (WD.y 14 z (by kernel_rfl) (fun _ _ _ => Y.pick (b := true) z z) z (WD.ren 10 z (congrArg vB r.symm) ?_)))))))))
   exact aC (true, ac) _ _ _ ⟨some1 h, (sr_ _ _ _), z⟩ (.cons z (.cons z (.cons z .nil)))
  ·refine WD.ren 10 z (congrArg vB r) (WD.gT 6 z (by kernel_rfl) z z (fun _ _ _ => yf fo40_1 z) z (WD.gT 7 z (by kernel_rfl) z z (fun cs cw aJ => have bU := aa.st d z; have bW := bU.st c z; have bX := bW.st aJ z; yl ty32 z z (bX.cell 1 _ z)) z (WD.gT 9 z (by kernel_rfl) z z (fun _ _ _ => yf fo40_1 z) z (WD.gT 10 z (by kernel_rfl) z z (fun ci ct aD => have aK := ab.st c z; have aL := aK.st aD z; yl ty32 z z (aL.cell 1 _ z)) z (WD.heavy 8 z (by kernel_rfl) (ug z z ?_))))))
   have aO := ((af.i p z z).i d z z).i c z z
   obtain ⟨bY, aP, h⟩ := bnd h
   refine WL.call (vals := [(vl bw bx bz)]) kok30 z z (c_ref11_Sorted (A := fun _ => True) (Sl.all aO) aP) ?_
   rintro D aQ ⟨_, rfl, aR, bZ⟩
   obtain ⟨aE, b9, ad, t⟩ := adoptE ac (fun k => if ob D = some k then 13 else 1) aR
   have aS : OwnSl 13 rep_api_Pair 67 aE aQ D bY := RowF.adopt 13 flat_api_Pair bZ ad (fun k hk => if_pos hk)
   refine nl (At.dq (su_ t z) (WD.heavy 11 z (by kernel_rfl) (ug z z ?_)))
   have aW := ((ap.i d z z).i c z z).i t z z
   obtain ⟨b0, aX, h⟩ := bnd h
   refine WL.call (vals := [(vl bA bB bC)]) kok30 z z (c_ref11_Sorted (A := fun _ => True) (Sl.all aW) aX) ?_
   rintro F aY ⟨_, rfl, aZ, b1⟩
   obtain ⟨aF, ca, ae, C⟩ := adoptE aE (fun k => if ob F = some k then 14 else 1) aZ
   have a2 : OwnSl 14 rep_api_Pair 67 aF aY F b0 := RowF.adopt 14 flat_api_Pair b1 ae (fun k hk => if_pos hk)
   refine nl (At.dq (su_ C z) (WD.heavy 12 z (by kernel_rfl) (ug z z ?_)))
   have a3 := aS.st C z z z
   obtain ⟨b2, a4, h⟩ := bnd h
   refine WL.call (vals := [D, F]) kok29 z z (c_ref11_Same (A := fun _ => True) (a3.src.sl) (a2.src.sl) a4) ?_
   rintro cj ck ⟨rfl, a5⟩
   obtain ⟨b3, cb, cc, V⟩ := adoptE aF (fun k => 1) a5
   refine nl (At.dq (su_ V z) (WD.gT 13 z (by kernel_rfl) z z (fun _ _ _ => Y.not z) z (WD.y 14 z (by kernel_rfl) (fun _ _ _ => Y.pick (b := false) z z) z (WD.ren 10 z (congrArg vB r.symm) ?_))))
   exact aC ((!b2), b3) _ _ _ ⟨some1 h, (tr_ (su_ t z) (tr_ (su_ C z) (su_ V z))), z⟩ (.cons z (.cons z (.cons z .nil)))
 ·rintro ⟨ch, W⟩ _ q ⟨rfl, j, rfl⟩
  replace h := bT
  try dsimp only at h j
  refine (show WD _ _ _ _ _ _ _ _ [(2, pt n 0), (3, pt o 0), (19, vB ch)] _ _ from ?_)
  refine WD.done_ (by kernel_rfl) (th ?_)
  rcases cnd h with ⟨G, h⟩ | ⟨G, h⟩
  ·refine WC.condT' z G (sq (rg (wY (ya z) z (nl (th (rt (At.thenR ?_)))))))
   obtain rfl := some1 h
   have a6 : Stp [] (Lg.O0 A) w W q := (tr_ (su_ p z) (tr_ (su_ d z) (tr_ (su_ c z) (su_ j z))))
   exact At.res (.inl z) z (.tmp z .nil) ⟨z, (se_ a6 z z)⟩
  ·refine WC.condF' z G (sk (th (sq (sq (rg (wY (yf fo40_2 z) z ?_))))))
   have l := ((aa.st d z).st c z).st j z
   refine wY (yl ty3 z z (l.cell 2 _ z)) z (wY (yf fo40_2 z) z ?_)
   have m := (ab.st c z).st j z
   refine wY (yl ty3 z z (m.cell 2 _ z)) z (wY (Y.neq_i z z) z (wY (ym z) z ?_))
   refine WL.cut 6 (σ := Unit) (fun _ w' => q = w') (fun _ => [(2, pt n 0), (3, pt o 0), (31, vB ((!decide (a0.Kind = a1.Kind)) || (!decide (a0.Temp = a1.Temp))))]) ?_ ?_
   ·refine WL.part 25 z (fun H => ?_) (fun H => ?_)
    ·refine WL.gS z z z z (WL.gS z z z z (WL.gS z z z z (WL.gS z z z z (WL.gS z z z z (wY (Y.pick (b := true) z z) z (WL.ren (v' := vB ((!decide (a0.Kind = a1.Kind)) || (!decide (a0.Temp = a1.Temp)))) 31 z (congrArg vB (orT H)) ?_))))))
     exact nl (At.join () z (.cons z (.cons z (.cons z .nil))))
    ·refine ug z z (wY (yf fo40_3 z) z (ug z z (wY (yl ty3 z z (l.cell 3 _ z)) z (ug z z (wY (yf fo40_3 z) z (ug z z (wY (yl ty3 z z (m.cell 3 _ z)) z (ug z z (wY (Y.neq_i z z) z ?_)))))))))
     refine wY (Y.pick (b := false) z z) z (WL.ren (v' := vB ((!decide (a0.Kind = a1.Kind)) || (!decide (a0.Temp = a1.Temp)))) 31 z (congrArg vB (orF H)) ?_)
     exact nl (At.join () z (.cons z (.cons z (.cons z .nil))))
   ·rintro _ _ rfl
    refine (show WL _ _ _ _ _ [(2, pt n 0), (3, pt o 0), (31, vB ((!decide (a0.Kind = a1.Kind)) || (!decide (a0.Temp = a1.Temp))))] _ from ?_)
    refine wY (ym z) z ?_
    refine WL.cut 6 (σ := Unit) (fun _ w' => q = w') (fun _ => [(2, pt n 0), (3, pt o 0), (38, vB (((!decide (a0.Kind = a1.Kind)) || (!decide (a0.Temp = a1.Temp))) || (!decide (a0.Mono = a1.Mono))))]) ?_ ?_
    ·refine WL.part 32 z (fun I => ?_) (fun I => ?_)
     ·refine WL.gS z z z z (WL.gS z z z z (WL.gS z z z z (WL.gS z z z z (WL.gS z z z z (wY (Y.pick (b := true) z z) z (WL.ren (v' := vB (((!decide (a0.Kind = a1.Kind)) || (!decide (a0.Temp = a1.Temp))) || (!decide (a0.Mono = a1.Mono)))) 38 z (congrArg vB (orT I)) ?_))))))
      exact nl (At.join () z (.cons z (.cons z (.cons z .nil))))
     ·refine ug z z (wY (yf fo40_4 z) z (ug z z (wY (yl ty4 z z (l.cell 4 _ z)) z (ug z z (wY (yf fo40_4 z) z (ug z z (wY (yl ty4 z z (m.cell 4 _ z)) z (ug z z (wY (Y.neqB z z ty4.u) z ?_)))))))))
      refine wY (Y.pick (b := false) z z) z (WL.ren (v' := vB (((!decide (a0.Kind = a1.Kind)) || (!decide (a0.Temp = a1.Temp))) || (!decide (a0.Mono = a1.Mono)))) 38 z (congrArg vB (orF I)) ?_)
      exact nl (At.join () z (.cons z (.cons z (.cons z .nil))))
    ·rintro _ _ rfl
     refine (show WL _ _ _ _ _ [(2, pt n 0), (3, pt o 0), (38, vB (((!decide (a0.Kind = a1.Kind)) || (!decide (a0.Temp = a1.Temp))) || (!decide (a0.Mono = a1.Mono))))] _ from ?_)
     refine wY (ym z) z ?_
     refine WL.cut 6 (σ := Unit) (fun _ w' => q = w') (fun _ => [(2, pt n 0), (3, pt o 0), (45, vB ((((!decide (a0.Kind = a1.Kind)) || (!decide (a0.Temp = a1.Temp))) || (!decide (a0.Mono = a1.Mono))) || (!decide (a0.Start = a1.Start))))]) ?_ ?_
     ·refine WL.part 39 z (fun J => ?_) (fun J => ?_)
      ·refine WL.gS z z z z (WL.gS z z z z (WL.gS z z z z (WL.gS z z z z (WL.gS z z z z (wY (Y.pick (b := true) z z) z (WL.ren (v' := vB ((((!decide (a0.Kind = a1.Kind)) || (!decide (a0.Temp = a1.Temp))) || (!decide (a0.Mono = a1.Mono))) || (!decide (a0.Start = a1.Start)))) 45 z (congrArg vB (orT J)) ?_))))))
       exact nl (At.join () z (.cons z (.cons z (.cons z .nil))))
      ·refine ug z z (wY (yf fo40_5 z) z (ug z z (wY (yl ty3 z z (l.cell 5 _ z)) z (ug z z (wY (yf fo40_5 z) z (ug z z (wY (yl ty3 z z (m.cell 5 _ z)) z (ug z z (wY (Y.neq_i z z) z ?_)))))))))
       refine wY (Y.pick (b := false) z z) z (WL.ren (v' := vB ((((!decide (a0.Kind = a1.Kind)) || (!decide (a0.Temp = a1.Temp))) || (!decide (a0.Mono = a1.Mono))) || (!decide (a0.Start = a1.Start)))) 45 z (congrArg vB (orF J)) ?_)
       exact nl (At.join () z (.cons z (.cons z (.cons z .nil))))
     ·rintro _ _ rfl
      refine (show WL _ _ _ _ _ [(2, pt n 0), (3, pt o 0), (45, vB ((((!decide (a0.Kind = a1.Kind)) || (!decide (a0.Temp = a1.Temp))) || (!decide (a0.Mono = a1.Mono))) || (!decide (a0.Start = a1.Start))))] _ from ?_)
      refine wY (ym z) z ?_
      refine WL.cut 6 (σ := Unit) (fun _ w' => q = w') (fun _ => [(2, pt n 0), (3, pt o 0), (52, vB (((((!decide (a0.Kind = a1.Kind)) || (!decide (a0.Temp = a1.Temp))) || (!decide (a0.Mono = a1.Mono))) || (!decide (a0.Start = a1.Start))) || (!decide (a0.Time = a1.Time))))]) ?_ ?_
      ·refine WL.part 46 z (fun K => ?_) (fun K => ?_)
       ·refine WL.gS z z z z (WL.gS z z z z (WL.gS z z z z (WL.gS z z z z (WL.gS z z z z (wY (Y.pick (b := true) z z) z (WL.ren (v' := vB (((((!decide (a0.Kind = a1.Kind)) || (!decide (a0.Temp = a1.Temp))) || (!decide (a0.Mono = a1.Mono))) || (!decide (a0.Start = a1.Start))) || (!decide (a0.Time = a1.Time)))) 52 z (congrArg vB (orT K)) ?_))))))
        exact nl (At.join () z (.cons z (.cons z (.cons z .nil))))
       ·refine ug z z (wY (yf fo40_6 z) z (ug z z (wY (yl ty3 z z (l.cell 6 _ z)) z (ug z z (wY (yf fo40_6 z) z (ug z z (wY (yl ty3 z z (m.cell 6 _ z)) z (ug z z (wY (Y.neq_i z z) z ?_)))))))))
        refine wY (Y.pick (b := false) z z) z (WL.ren (v' := vB (((((!decide (a0.Kind = a1.Kind)) || (!decide (a0.Temp = a1.Temp))) || (!decide (a0.Mono = a1.Mono))) || (!decide (a0.Start = a1.Start))) || (!decide (a0.Time = a1.Time)))) 52 z (congrArg vB (orF K)) ?_)
        exact nl (At.join () z (.cons z (.cons z (.cons z .nil))))
      ·rintro _ _ rfl
       refine (show WL _ _ _ _ _ [(2, pt n 0), (3, pt o 0), (52, vB (((((!decide (a0.Kind = a1.Kind)) || (!decide (a0.Temp = a1.Temp))) || (!decide (a0.Mono = a1.Mono))) || (!decide (a0.Start = a1.Start))) || (!decide (a0.Time = a1.Time))))] _ from ?_)
       refine nl (th ?_)
       rcases cnd h with ⟨M, h⟩ | ⟨M, h⟩
       ·refine WC.condT' z M (sq (rg (wY (ya z) z (nl (th (rt (At.thenR ?_)))))))
        obtain rfl := some1 h
        have ba : Stp [] (Lg.O0 A) w W q := (tr_ (su_ p z) (tr_ (su_ d z) (tr_ (su_ c z) (su_ j z))))
        exact At.res (.inl z) z (.tmp z .nil) ⟨z, (se_ ba z z)⟩
       ·refine WC.condF' z M (sk (th (sq (rg (wY (yf fo40_7 z) z (wY (yl ty3 z z (l.cell 7 _ z)) z (wY (yf fo40_7 z) z (wY (yl ty3 z z (m.cell 7 _ z)) z (wY (Y.eql_i z z) z ?_)))))))))
        refine wY (ym z) z ?_
        refine WL.cut 6 (σ := Unit) (fun _ w' => q = w') (fun _ => [(2, pt n 0), (3, pt o 0), (64, vB ((decide (a0.Int_ = a1.Int_)) && (decide (a0.Re = a1.Re))))]) ?_ ?_
        ·refine WL.part 58 z (fun Q => ?_) (fun Q => ?_)
         ·refine ug z z (wY (yf fo40_8 z) z (ug z z (wY (yl ty33 z z (l.cell 8 _ z)) z (ug z z (wY (yf fo40_8 z) z (ug z z (wY (yl ty33 z z (m.cell 8 _ z)) z (ug z z (wY (Y.eql_u z z) z ?_)))))))))
          refine wY (Y.pick (b := true) z z) z (WL.ren (v' := vB ((decide (a0.Int_ = a1.Int_)) && (decide (a0.Re = a1.Re)))) 64 z (congrArg vB (andT Q)) ?_)
          exact nl (At.join () z (.cons z (.cons z (.cons z .nil))))
         ·refine WL.gS z z z z (WL.gS z z z z (WL.gS z z z z (WL.gS z z z z (WL.gS z z z z (wY (Y.pick (b := false) z z) z (WL.ren (v' := vB ((decide (a0.Int_ = a1.Int_)) && (decide (a0.Re = a1.Re)))) 64 z (congrArg vB (andF Q)) ?_))))))
          exact nl (At.join () z (.cons z (.cons z (.cons z .nil))))
        ·rintro _ _ rfl
         refine (show WL _ _ _ _ _ [(2, pt n 0), (3, pt o 0), (64, vB ((decide (a0.Int_ = a1.Int_)) && (decide (a0.Re = a1.Re))))] _ from ?_)
         refine wY (ym z) z ?_
         refine WL.cut 6 (σ := Unit) (fun _ w' => q = w') (fun _ => [(2, pt n 0), (3, pt o 0), (71, vB (((decide (a0.Int_ = a1.Int_)) && (decide (a0.Re = a1.Re))) && (decide (a0.Im = a1.Im))))]) ?_ ?_
         ·refine WL.part 65 z (fun S => ?_) (fun S => ?_)
          ·refine ug z z (wY (yf fo40_9 z) z (ug z z (wY (yl ty33 z z (l.cell 9 _ z)) z (ug z z (wY (yf fo40_9 z) z (ug z z (wY (yl ty33 z z (m.cell 9 _ z)) z (ug z z (wY (Y.eql_u z z) z ?_)))))))))
           refine wY (Y.pick (b := true) z z) z (WL.ren (v' := vB (((decide (a0.Int_ = a1.Int_)) && (decide (a0.Re = a1.Re))) && (decide (a0.Im = a1.Im)))) 71 z (congrArg vB (andT S)) ?_)
           exact nl (At.join () z (.cons z (.cons z (.cons z .nil))))
          ·refine WL.gS z z z z (WL.gS z z z z (WL.gS z z z z (WL.gS z z z z (WL.gS z z z z (wY (Y.pick (b := false) z z) z (WL.ren (v' := vB (((decide (a0.Int_ = a1.Int_)) && (decide (a0.Re = a1.Re))) && (decide (a0.Im = a1.Im)))) 71 z (congrArg vB (andF S)) ?_))))))
           exact nl (At.join () z (.cons z (.cons z (.cons z .nil))))
         ·rintro _ _ rfl
          refine (show WL _ _ _ _ _ [(2, pt n 0), (3, pt o 0), (71, vB (((decide (a0.Int_ = a1.Int_)) && (decide (a0.Re = a1.Re))) && (decide (a0.Im = a1.Im))))] _ from ?_)
          refine wY (ym z) z ?_
          refine WL.cut 6 (σ := Unit) (fun _ w' => q = w') (fun _ => [(2, pt n 0), (3, pt o 0), (78, vB ((((decide (a0.Int_ = a1.Int_)) && (decide (a0.Re = a1.Re))) && (decide (a0.Im = a1.Im))) && (decide (a0.Flags = a1.Flags))))]) ?_ ?_
          ·refine WL.part 72 z (fun T => ?_) (fun T => ?_)
           ·refine ug z z (wY (yf fo40_11 z) z (ug z z (wY (yl ty3 z z (l.cell 16 _ z)) z (ug z z (wY (yf fo40_11 z) z (ug z z (wY (yl ty3 z z (m.cell 16 _ z)) z (ug z z (wY (Y.eql_i z z) z ?_)))))))))
            refine wY (Y.pick (b := true) z z) z (WL.ren (v' := vB ((((decide (a0.Int_ = a1.Int_)) && (decide (a0.Re = a1.Re))) && (decide (a0.Im = a1.Im))) && (decide (a0.Flags = a1.Flags)))) 78 z (congrArg vB (andT T)) ?_)
            exact nl (At.join () z (.cons z (.cons z (.cons z .nil))))
           ·refine WL.gS z z z z (WL.gS z z z z (WL.gS z z z z (WL.gS z z z z (WL.gS z z z z (wY (Y.pick (b := false) z z) z (WL.ren (v' := vB ((((decide (a0.Int_ = a1.Int_)) && (decide (a0.Re = a1.Re))) && (decide (a0.Im = a1.Im))) && (decide (a0.Flags = a1.Flags)))) 78 z (congrArg vB (andF T)) ?_))))))
            exact nl (At.join () z (.cons z (.cons z (.cons z .nil))))
          ·rintro _ _ rfl
           refine (show WL _ _ _ _ _ [(2, pt n 0), (3, pt o 0), (78, vB ((((decide (a0.Int_ = a1.Int_)) && (decide (a0.Re = a1.Re))) && (decide (a0.Im = a1.Im))) && (decide (a0.Flags = a1.Flags))))] _ from ?_)
           refine wY (ym z) z ?_
           obtain ⟨b4, h, bb⟩ := bnd h
           refine WL.cut 6 (σ := (Bool × Own)) (fun x w' => x.1 = b4 ∧ Stp [] W q x.2 w') (fun x => [(85, vB x.1)]) ?_ ?_
           ·rcases cnd h with ⟨U, h⟩ | ⟨U, h⟩
            ·refine WL.ren 79 z (congrArg vB U) (ug z z (wY (yf fo40_10 z) z (ug z z (wY (yL ty38 z z (l.cells 10 (hl a0.Hist (vl aj ak al) (vl am an ao)) z) z) z (ug z z (wY (yf fo40_10 z) z (ug z z (wY (yL ty38 z z (m.cells 10 (hl a1.Hist (vl ar au av) (vl ay az aA)) z) z) z (ug z z ?_)))))))))
             have bg := (((ah.i p z z).i d z z).i c z z).i j z z
             have bk := (((ai.i p z z).i d z z).i c z z).i j z z
             have bn := ((aq.i d z z).i c z z).i j z z
             have bq := ((ax.i d z z).i c z z).i j z z
             obtain ⟨b5, br, h⟩ := bnd h
             refine WL.call (vals := [ag (hl a0.Hist (vl aj ak al) (vl am an ao)), ag (hl a1.Hist (vl ar au av) (vl ay az aA))]) kok31 z z (c_ref08_Same (A := fun _ => True) (a0 := a0.Hist) (a1 := a1.Hist) (Sl.all bg) (Sl.all bk) (Sl.all bn) (Sl.all bq) br) ?_
             rintro cl cm ⟨rfl, bs⟩
             obtain ⟨b6, cd, ce, aG⟩ := adoptE W (fun k => 1) bs
             refine wY (Y.pick (b := true) z z) z ?_
             exact nl (At.join (σ := (Bool × Own)) (b5, b6) ⟨some1 h, (su_ aG z)⟩ (.cons z .nil))
            ·refine WL.ren 79 z (congrArg vB U) (WL.gS z z z z (WL.gS z z z z (WL.gS z z z z (WL.gS z z z z (WL.gS z z z z (wY (Y.pick (b := false) z z) z ?_))))))
             exact nl (At.join (σ := (Bool × Own)) (false, W) ⟨some1 h, (sr_ _ _ _)⟩ (.cons z .nil))
           ·rintro ⟨b7, b8⟩ bt ⟨rfl, Z⟩
            replace h := bb
            try dsimp only at h Z
            refine (show WL _ _ _ _ _ [(85, vB b7)] _ from ?_)
            refine wY (ya z) z (nl (th (rt ?_)))
            obtain rfl := some1 h
            have bu : Stp [] (Lg.O0 A) w b8 bt := (tr_ (su_ p z) (tr_ (su_ d z) (tr_ (su_ c z) (tr_ (su_ j z) (su_ Z z)))))
            exact At.res (.inl z) z (.tmp z .nil) ⟨z, (se_ bu z z)⟩
theorem c_ref12_SameAll {A : Nat → Prop} {a0 : List api_Point} {v0 : Value} {a1 : List api_Point} {v1 : Value} {w : World} (hs0 : Sl rep_api_Point w A v0 a0) (hs1 : Sl rep_api_Point w A v1 a1) {r0 : Bool} (h : ref12_SameAll a0 a1 = some r0) : Rets Tryz.prog 10 [v0, v1] w (fun v w' => v = vB r0 ∧ Ext w w') := by
 unfold ref12_SameAll at h
 refine Rets.enter Tryz.func10 z z ?_
 have r : Sl rep_api_Point w (imm (Lg.O0 A)) v0 a0 := (Sl.start hs0)
 have t : Sl rep_api_Point w (imm (Lg.O0 A)) v1 a1 := (Sl.start hs1)
 refine (show WC _ _ _ _ [(0, v0), (1, v1)] _ from ?_)
 refine sq (rg (wY (ya z) z (nl (th (sq (sq (rg (wY (ym z) z (wY (Y.len ty22 z r) z ?_)))))))))
 refine wY (ym z) z (wY (Y.len ty22 z t) z (wY (Y.neq_i z z) z (nl (th ?_))))
 rcases cnd h with ⟨j, h⟩ | ⟨j, h⟩
 ·refine WC.condT' z j (sq (rg (wY (ya z) z (nl (th (rt (At.thenR ?_)))))))
  obtain rfl := some1 h
  have ad : Stp [] (Lg.O0 A) w (Lg.O0 A) w := (sr_ _ _ _)
  exact At.res (.inl z) z (.tmp z .nil) ⟨z, (se_ ad z z)⟩
 ·refine WC.condF' z j (sk (th (sq (sq (rg (wY (ya z) z (nl (th (WC.block ?_)))))))))
  obtain ⟨S, h, C⟩ := flow1 h
  obtain ⟨T, h⟩ := loop_some h
  refine WC.joinB 0 (σ := Own) (fun x w' => S = .go () ∧ Stp [] (Lg.O0 A) w x w') (fun x => []) ?_ ?_
  ·refine WC.loop (σ := (Int × Own)) (fun x k w' => loopN k (ref12_SameAll_lp1 a0 a1) x.1 = some S ∧ Stp [] (Lg.O0 A) w x.2 w') (fun x => [(0, v0), (1, v1), (5, vi x.1)]) (0, (Lg.O0 A)) T (.cons z (.cons z (.cons z .nil))) ⟨h, (sr_ _ _ _)⟩ ?_
   rintro ⟨aJ, D⟩ T aT ⟨h, c⟩
   obtain ⟨aK, aZ, rfl, h, l⟩ := rnd1 h
   unfold ref12_SameAll_lp1 at h
   try dsimp only at h c
   refine (show WC _ _ _ _ [(0, v0), (1, v1), (5, vi aJ)] _ from ?_)
   refine sq (sq (rg (wY (ym z) z (wY (ym z) z ?_))))
   have F := r.i c z z
   refine wY (Y.len ty22 z F) z (wY (Y.lss_i z z) z (nl (th ?_)))
   rcases cnd h with ⟨m, h⟩ | ⟨m, h⟩
   ·refine WC.condT' z m (sk (th (sq (WC.block (sq (WC.draw 8 D fmix (by kernel_rfl) ?_))))))
    intro aU d
    refine WS.y (ym z) z (WS.y (ym z) z ?_)
    obtain ⟨G, ae, h⟩ := bnd h
    have af := F.i d z z
    obtain ⟨a2, aP, aQ, aW, ah, ai, aj, n, I, ak⟩ := Sl.at2 af ae
    obtain ⟨_, _, rfl, rfl, ⟨_, _, rfl, ⟨U, rfl, al⟩, ⟨_, _, rfl, rfl, ⟨_, _, rfl, rfl, ⟨_, _, rfl, rfl, ⟨_, _, rfl, rfl, ⟨_, _, rfl, rfl, ⟨_, _, rfl, rfl, ⟨_, _, rfl, rfl, ⟨_, _, rfl, rfl, ⟨_, _, rfl, ⟨_, _, rfl, rfl, ⟨_, _, rfl, rfl, ⟨_, _, rfl, ⟨_, _, rfl, rfl, ⟨V, rfl, am⟩⟩, ⟨_, _, rfl, rfl, ⟨W, rfl, an⟩⟩⟩⟩⟩, rfl⟩⟩⟩⟩⟩⟩⟩⟩⟩⟩⟩ := I
    replace n : CellsAt _ _ _ (cp G U V W) := n
    have J := CAt.imm n ak
    refine WS.y (Y.indexAddr ty22 ty40 z ah z ai aj) z (WS.y (yL ty40 z z J.at_ z) z (WS.y (ym z) z (WS.y (ym z) z ?_)))
    obtain ⟨H, ao, h⟩ := bnd h
    have aq := (t.i c z z).i d z z
    obtain ⟨a3, aR, aS, aX, ar, au, av, o, K, ax⟩ := Sl.at2 aq ao
    obtain ⟨_, _, rfl, rfl, ⟨_, _, rfl, ⟨Z, rfl, ay⟩, ⟨_, _, rfl, rfl, ⟨_, _, rfl, rfl, ⟨_, _, rfl, rfl, ⟨_, _, rfl, rfl, ⟨_, _, rfl, rfl, ⟨_, _, rfl, rfl, ⟨_, _, rfl, rfl, ⟨_, _, rfl, rfl, ⟨_, _, rfl, ⟨_, _, rfl, rfl, ⟨_, _, rfl, rfl, ⟨_, _, rfl, ⟨_, _, rfl, rfl, ⟨aa, rfl, az⟩⟩, ⟨_, _, rfl, rfl, ⟨ab, rfl, aA⟩⟩⟩⟩⟩, rfl⟩⟩⟩⟩⟩⟩⟩⟩⟩⟩⟩ := K
    replace o : CellsAt _ _ _ (cp H Z aa ab) := o
    have M := CAt.imm o ax
    refine WS.y (Y.indexAddr ty22 ty40 z ar z au av) z (WS.y (yL ty40 z z M.at_ z) z (WS.tail ?_))
    obtain ⟨a4, aC, h⟩ := bnd h
    refine WL.call (vals := [ag (cp G U V W), ag (cp H Z aa ab)]) kok14 z z (c_ref12_Same (A := fun _ => True) (a0 := G) (a1 := H) (Sl.all al) (Sl.all am) (Sl.all an) (Sl.all ay) (Sl.all az) (Sl.all aA) aC) ?_
    rintro aY aD ⟨rfl, aE⟩
    obtain ⟨ac, aL, aM, q⟩ := adoptE D (fun k => 1) aE
    refine wY (Y.not z) z (nl (th ?_))
    rcases cnd h with ⟨p, h⟩ | ⟨p, h⟩
    ·refine WC.condT' z p (sq (rg (wY (ya z) z (nl (th (rt (At.inBlockR (At.thenR (At.loopR ?_)))))))))
     have h := outr1 h l C
     refine At.joinBR (At.inBlockR (At.thenR ?_))
     obtain rfl := some1 h
     have aF : Stp [] (Lg.O0 A) w ac aD := (tr_ (su_ c z) (tr_ (su_ d z) (su_ q z)))
     exact At.res (.inl z) z (.tmp z .nil) ⟨z, (se_ aF z z)⟩
    ·refine WC.condF' z p (sk (At.inBlock (th (rg (wY (ym z) z (wY (Y.add_i z z) z ?_))))))
     obtain ⟨aN, aG, h⟩ := lt1 h
     refine WL.yE (ya z) (congrArg vi aG.symm) z (nl ?_)
     exact At.round (aN, ac) aK (Nat.lt_succ_self _) ⟨next1 h l, (tr_ (su_ c z) (tr_ (su_ d z) (su_ q z)))⟩ (.cons z (.cons z (.cons z .nil)))
   ·refine WC.condF' z m (WC.exit (At.thenX (At.loopX ?_)))
    exact At.hitB (σ := Own) D ⟨brk1 h l, (su_ c z)⟩ .nil
  ·rintro aO aH ⟨rfl, Q⟩
   replace h := flowK_go C
   refine (show At _ _ _ [] _ from ?_)
   refine At.inBlockHit (th (sq (rg (wY (ya z) z (nl (th (rt ?_)))))))
   obtain rfl := some1 h
   have aI : Stp [] (Lg.O0 A) w aO aH := (su_ Q z)
   exact At.res (.inl z) z (.tmp z .nil) ⟨z, (se_ aI z z)⟩
end Go.Lg
