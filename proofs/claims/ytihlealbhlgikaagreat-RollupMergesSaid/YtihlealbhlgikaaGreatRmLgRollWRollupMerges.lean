/- The walks of RollupMerges and of what it calls, printed by gen.py. -/
import Derived.Test.YtihlealbhlgikaaGreatRmLgRollWRollupMergesx3
set_option linter.unusedVariables false
namespace Go.Lg
open Go Go.Proofs
set_option maxRecDepth 100000
set_option maxHeartbeats 4000000
theorem c_ref09_Level {A : Nat → Prop} {v0_3 : Value} {v0_5 : Value} {a0 : api_Hist} {v1_3 : Value} {v1_5 : Value} {a1 : api_Hist} {w : World} (hs0_3 : Sl Rep.u w A v0_3 a0.Pos.Counts) (hs0_5 : Sl Rep.u w A v0_5 a0.Neg.Counts) (hs1_3 : Sl Rep.u w A v1_3 a1.Pos.Counts) (hs1_5 : Sl Rep.u w A v1_5 a1.Neg.Counts) {r0 : ref09_Pair} (h : ref09_Level a0 a1 = some r0) : Rets Tryz.prog 104 [ag (hl a0 v0_3 v0_5), ag (hl a1 v1_3 v1_5)] w (fun v w' => ∃ (ae : Value) (af : Value) (ah : Value) (W : Value), v = ag [vi r0.X.Scale, vu r0.X.Zero, vi r0.X.Pos.Offset, ae, vi r0.X.Neg.Offset, af, vi r0.Y.Scale, vu r0.Y.Zero, vi r0.Y.Pos.Offset, ah, vi r0.Y.Neg.Offset, W, vi r0.E] ∧ Ext w w' ∧ RowF Rep.u 33 w w' ae r0.X.Pos.Counts ∧ RowF Rep.u 33 w w' af r0.X.Neg.Counts ∧ RowF Rep.u 33 w w' ah r0.Y.Pos.Counts ∧ RowF Rep.u 33 w w' W r0.Y.Neg.Counts ∧ (∀ k, ob ae = some k → ob af ≠ some k) ∧ (∀ k, ob ae = some k → ob ah ≠ some k) ∧ (∀ k, ob af = some k → ob ah ≠ some k) ∧ (∀ k, ob ae = some k → ob W ≠ some k) ∧ (∀ k, ob af = some k → ob W ≠ some k) ∧ (∀ k, ob ah = some k → ob W ≠ some k)) := by
 unfold ref09_Level at h
 refine Rets.enter Tryz.func104 z z ?_
 have aU : Sl Rep.u w (imm (Lg.O0 A)) v0_3 a0.Pos.Counts := (Sl.start hs0_3)
 have aW : Sl Rep.u w (imm (Lg.O0 A)) v0_5 a0.Neg.Counts := (Sl.start hs0_5)
 have cd : Sl Rep.u w (imm (Lg.O0 A)) v1_3 a1.Pos.Counts := (Sl.start hs1_3)
 have ce : Sl Rep.u w (imm (Lg.O0 A)) v1_5 a1.Neg.Counts := (Sl.start hs1_5)
 refine (show WC _ _ _ _ [(0, ag (hl a0 v0_3 v0_5)), (1, ag (hl a1 v1_3 v1_5))] _ from ?_)
 refine sq (rg ?_)
 have cf := h
 obtain ⟨al, am, an, rfl⟩ := aU.shape
 have h := cf
 have cg := h
 obtain ⟨ao, ap, aq, rfl⟩ := aW.shape
 have h := cg
 refine WL.box (O := (Lg.O0 A)) 11 (hl a0 (vl al am an) (vl ao ap aq)) z z z ?_
 intro b8 cX db t ch
 have aX := cd.i t z z
 have ci := h
 obtain ⟨ar, au, av, rfl⟩ := aX.shape
 have h := ci
 have aY := ce.i t z z
 have cj := h
 obtain ⟨ax, ay, az, rfl⟩ := aY.shape
 have h := cj
 refine WL.box (O := cX) 12 (hl a1 (vl ar au av) (vl ax ay az)) z z z ?_
 intro b9 cY dc r ck
 refine WL.alloc (O := cY) 13 [vi 0, vu 0, vi 0, sn, vi 0, sn, vi 0, vu 0, vi 0, sn, vi 0, sn, vi 0] ty126 z z ?_
 intro ca cZ dd m aD
 refine nl (th (sq (sq (rg ?_))))
 have aZ := (ch.st r z).st m z
 refine wY (yL ty38 z z (aZ.cells 0 (hl a0 (vl al am an) (vl ao ap aq)) z) z) z ?_
 have a2 := ((aU.i t z z).i r z z).i m z z
 have a3 := ((aW.i t z z).i r z z).i m z z
 obtain ⟨aA, cr, h⟩ := bnd h
 refine WL.call (vals := [ag (hl a0 (vl al am an) (vl ao ap aq))]) kok56 z z (c_ref08_Check (A := fun _ => True) (a0 := a0) (Sl.all a2) (Sl.all a3) cr) ?_
 rintro de df ⟨rfl, cs⟩
 obtain ⟨cb, c0, c1, j⟩ := adoptE cZ (fun k => 1) cs
 refine wY (ya z) z (nl (th (sq (rg (wY (ym z) z (wY (Y.neq_i z z) z (nl (th ?_))))))))
 rcases cnd h with ⟨aE, h⟩ | ⟨aE, h⟩
 ·refine WC.condT' z aE (sq (rg (wY (ym z) z (wY (yb (vals := [(2, vi aA)]) (cells := [vi 0, vu 0, vi 0, sn, vi 0, sn, vi 0, vu 0, vi 0, sn, vi 0, sn, vi aA]) (fe_ z) (by kernel_rfl)) z ?_))))
  have ct := aD.st j z
  refine WL.store (v := ag [vi 0, vu 0, vi 0, sn, vi 0, sn, vi 0, vu 0, vi 0, sn, vi 0, sn, vi aA]) (cells' := [vi 0, vu 0, vi 0, sn, vi 0, sn, vi 0, vu 0, vi 0, sn, vi 0, sn, vi aA]) ty126 z z ct z (le_ z) z z ?_
  intro cu a9 cv
  refine nl (th (rt (At.thenR ?_)))
  obtain rfl := some1 h
  have cw : Stp [13] (Lg.O0 A) w cb cu := (tr_ (su_ t z) (tr_ (su_ r z) (tr_ (su_ m z) (tr_ (su_ j z) (su_ a9 z)))))
  exact At.res (.inl z) z (.cell z (cv.runAg 0 [vi 0, vu 0, vi 0, sn, vi 0, sn, vi 0, vu 0, vi 0, sn, vi 0, sn, vi aA] ty126 z z z) .nil) ⟨sn, sn, sn, sn, z, (se_ cw z z), RowF.nil, RowF.nil, RowF.nil, RowF.nil, (fun _ e => absurd e not_nil), (fun _ e => absurd e not_nil), (fun _ e => absurd e not_nil), (fun _ e => absurd e not_nil), (fun _ e => absurd e not_nil), (fun _ e => absurd e not_nil)⟩
 ·refine WC.condF' z aE (sk (th (sq (sq (rg ?_)))))
  have aF := (ck.st m z).st j z
  refine wY (yL ty38 z z (aF.cells 0 (hl a1 (vl ar au av) (vl ax ay az)) z) z) z ?_
  have a4 := ((aX.i r z z).i m z z).i j z z
  have a5 := ((aY.i r z z).i m z z).i j z z
  obtain ⟨aC, cD, h⟩ := bnd h
  refine WL.call (vals := [ag (hl a1 (vl ar au av) (vl ax ay az))]) kok56 z z (c_ref08_Check (A := fun _ => True) (a0 := a1) (Sl.all a4) (Sl.all a5) cD) ?_
  rintro dg cE ⟨rfl, cF⟩
  obtain ⟨cc, c2, c3, l⟩ := adoptE cb (fun k => 1) cF
  refine wY (ya z) z (nl (th (sq (rg (wY (ym z) z (wY (Y.neq_i z z) z (nl (th ?_))))))))
  rcases cnd h with ⟨aG, h⟩ | ⟨aG, h⟩
  ·refine WC.condT' z aG (sq (rg (wY (ym z) z (wY (yb (vals := [(2, vi aC)]) (cells := [vi 0, vu 0, vi 0, sn, vi 0, sn, vi 0, vu 0, vi 0, sn, vi 0, sn, vi aC]) (fe_ z) (by kernel_rfl)) z ?_))))
   have cH := (aD.st j z).st l z
   refine WL.store (v := ag [vi 0, vu 0, vi 0, sn, vi 0, sn, vi 0, vu 0, vi 0, sn, vi 0, sn, vi aC]) (cells' := [vi 0, vu 0, vi 0, sn, vi 0, sn, vi 0, vu 0, vi 0, sn, vi 0, sn, vi aC]) ty126 z z cH z (le_ z) z z ?_
   intro cI ba cJ
   refine nl (th (rt (At.thenR ?_)))
   obtain rfl := some1 h
   have cK : Stp [13] (Lg.O0 A) w cc cI := (tr_ (su_ t z) (tr_ (su_ r z) (tr_ (su_ m z) (tr_ (su_ j z) (tr_ (su_ l z) (su_ ba z))))))
   exact At.res (.inl z) z (.cell z (cJ.runAg 0 [vi 0, vu 0, vi 0, sn, vi 0, sn, vi 0, vu 0, vi 0, sn, vi 0, sn, vi aC] ty126 z z z) .nil) ⟨sn, sn, sn, sn, z, (se_ cK z z), RowF.nil, RowF.nil, RowF.nil, RowF.nil, (fun _ e => absurd e not_nil), (fun _ e => absurd e not_nil), (fun _ e => absurd e not_nil), (fun _ e => absurd e not_nil), (fun _ e => absurd e not_nil), (fun _ e => absurd e not_nil)⟩
  ·refine WC.condF' z aG (sk (th (sq (rg (wY (yf fo38_0 z) z ?_)))))
   have aH := (aZ.st j z).st l z
   refine wY (yl ty3 z z (aH.cell 0 _ z)) z (wY (ya z) z (nl (th (sq ?_))))
   obtain ⟨c4, h, cM⟩ := bnd h
   refine WC.join (σ := Int) (fun x w' => x = c4 ∧ cE = w') (fun x => [(2, pt b8 0), (3, pt b9 0), (4, pt ca 0), (7, vi x)]) ?_ ?_
   ·refine sq (rg (wY (yf fo38_0 z) z ?_))
    have aM := aF.st l z
    refine wY (yl ty3 z z (aM.cell 0 _ z)) z (wY (ym z) z (wY (Y.lss_i z z) z (nl (th ?_))))
    rcases cnd h with ⟨ak, h⟩ | ⟨ak, h⟩
    ·refine WC.condT' z ak (rg (wY (yf fo38_0 z) z (wY (yl ty3 z z (aM.cell 0 _ z)) z (wY (ya z) z (nl ?_)))))
     exact At.join (σ := Int) a1.Scale ⟨some1 h, z⟩ (.cons z (.cons z (.cons z (.cons z .nil))))
    ·refine WC.condF' z ak (sk ?_)
     exact At.join (σ := Int) a0.Scale ⟨some1 h, z⟩ (.cons z (.cons z (.cons z (.cons z .nil))))
   ·rintro a6 _ ⟨rfl, rfl⟩
    replace h := cM
    try dsimp only at h
    refine (show At _ _ _ [(2, pt b8 0), (3, pt b9 0), (4, pt ca 0), (7, vi a6)] _ from ?_)
    refine th (sq (rg (wY (yL ty38 z z (aH.cells 0 (hl a0 (vl al am an) (vl ao ap aq)) z) z) z (wY (yf fo38_0 z) z (wY (yl ty3 z z (aH.cell 0 _ z)) z (wY (ym z) z (wY (Y.sub_i z z) z ?_)))))))
    have bc := (a2.i j z z).i l z z
    have bf := (a3.i j z z).i l z z
    obtain ⟨⟨c, dh⟩, bg, h⟩ := bnd h
    refine WL.call (vals := [ag (hl a0 (vl al am an) (vl ao ap aq)), vi (w64 (a0.Scale - a6))]) kok105 z z (c_ref08_Down (A := fun _ => True) (a0 := a0) (Sl.all bc) (Sl.all bf) bg) ?_
    rintro c5 aN ⟨aI, a7, rfl, bh, cN, cO, cP⟩
    obtain ⟨aJ, cV, ai, T⟩ := adoptE cc (fun k => if ob aI = some k then 14 else if ob a7 = some k then 15 else 1) bh
    have bi : OwnSl 14 Rep.u 33 aJ aN aI c.Pos.Counts := RowF.adopt 14 Flat.u cN ai (fun k hk => if_pos hk)
    have bj : OwnSl 15 Rep.u 33 aJ aN a7 c.Neg.Counts := RowF.adopt 15 Flat.u cO ai (fun k hk => (if_neg (fun (e : ob aI = some k) => cP k e hk)).trans (if_pos hk))
    refine wY (ym z) z (wY (yx z z) z (wY (yx z z) z (WL.alloc (O := aJ) 16 hzr ty38 z z ?_)))
    intro di cQ c6 n bk
    have aO := bi.st n z z z
    have bl := h
    obtain ⟨C, D, F, rfl⟩ := aO.shape
    have h := bl
    have aP := bj.st n z z z
    have bm := h
    obtain ⟨G, H, I, rfl⟩ := aP.shape
    have h := bm
    refine WL.store (v := ag (hl c (vl C D F) (vl G H I))) (cells' := (hl c (vl C D F) (vl G H I))) ty38 z z bk z (le_ z) z z ?_
    intro c7 o bn
    refine wY (ya z) z (nl (th (sq (rg ?_))))
    have aQ := (((aF.st l z).st T z).st n z).st o z
    refine wY (yL ty38 z z (aQ.cells 0 (hl a1 (vl ar au av) (vl ax ay az)) z) z) z (wY (yf fo38_0 z) z (wY (yl ty3 z z (aQ.cell 0 _ z)) z (wY (ym z) z (wY (Y.sub_i z z) z ?_))))
    have bu := (((a4.i l z z).i T z z).i n z z).i o z z
    have bA := (((a5.i l z z).i T z z).i n z z).i o z z
    obtain ⟨⟨d, dj⟩, bB, h⟩ := bnd h
    refine WL.call (vals := [ag (hl a1 (vl ar au av) (vl ax ay az)), vi (w64 (a1.Scale - a6))]) kok105 z z (c_ref08_Down (A := fun _ => True) (a0 := a1) (Sl.all bu) (Sl.all bA) bB) ?_
    rintro c8 aR ⟨aK, a8, rfl, bC, cR, cS, cT⟩
    obtain ⟨aL, cW, aj, U⟩ := adoptE cQ (fun k => if ob aK = some k then 17 else if ob a8 = some k then 18 else 1) bC
    have bD : OwnSl 17 Rep.u 33 aL aR aK d.Pos.Counts := RowF.adopt 17 Flat.u cR aj (fun k hk => if_pos hk)
    have bE : OwnSl 18 Rep.u 33 aL aR a8 d.Neg.Counts := RowF.adopt 18 Flat.u cS aj (fun k hk => (if_neg (fun (e : ob aK = some k) => cT k e hk)).trans (if_pos hk))
    refine wY (ym z) z (wY (yx z z) z (wY (yx z z) z (WL.alloc (O := aL) 19 hzr ty38 z z ?_)))
    intro dk cU c9 p bF
    have aS := bD.st p z z z
    have bG := h
    obtain ⟨J, K, L, rfl⟩ := aS.shape
    have h := bG
    have aT := bE.st p z z z
    have bH := h
    obtain ⟨M, Q, S, rfl⟩ := aT.shape
    have h := bH
    refine WL.store (v := ag (hl d (vl J K L) (vl M Q S))) (cells' := (hl d (vl J K L) (vl M Q S))) ty38 z z bF z (le_ z) z z ?_
    intro da q bI
    refine wY (ya z) z (nl (th (sq (rg ?_))))
    have bL := ((bn.st U z).st p z).st q z
    refine wY (yL ty38 z z (bL.cells 0 (hl c (vl C D F) (vl G H I)) z) z) z (wY (yL ty38 z z (bI.cells 0 (hl d (vl J K L) (vl M Q S)) z) z) z (wY (yb (vals := [(0, ag (hl c (vl C D F) (vl G H I))), (1, ag (hl d (vl J K L) (vl M Q S)))]) (cells := [vi c.Scale, vu c.Zero, vi c.Pos.Offset, (vl C D F), vi c.Neg.Offset, (vl G H I), vi d.Scale, vu d.Zero, vi d.Pos.Offset, (vl J K L), vi d.Neg.Offset, (vl M Q S), vi 0]) (fe_ z) (by kernel_rfl)) z ?_))
    have bU := (((((((aD.st j z).st l z).st T z).st n z).st o z).st U z).st p z).st q z
    refine WL.store (v := ag [vi c.Scale, vu c.Zero, vi c.Pos.Offset, (vl C D F), vi c.Neg.Offset, (vl G H I), vi d.Scale, vu d.Zero, vi d.Pos.Offset, (vl J K L), vi d.Neg.Offset, (vl M Q S), vi 0]) (cells' := [vi c.Scale, vu c.Zero, vi c.Pos.Offset, (vl C D F), vi c.Neg.Offset, (vl G H I), vi d.Scale, vu d.Zero, vi d.Pos.Offset, (vl J K L), vi d.Neg.Offset, (vl M Q S), vi 0]) ty126 z z bU z (le_ z) z z ?_
    intro bW V bX
    refine nl (th (rt ?_))
    obtain rfl := some1 h
    have Z : Stp [13, 16, 19] (Lg.O0 A) w cU bW := (tr_ (su_ t z) (tr_ (su_ r z) (tr_ (su_ m z) (tr_ (su_ j z) (tr_ (su_ l z) (tr_ (su_ T z) (tr_ (su_ n z) (tr_ (su_ o z) (tr_ (su_ U z) (tr_ (su_ p z) (tr_ (su_ q z) (su_ V z))))))))))))
    have aa := ((((aO.st o z z z).st U z z z).st p z z z).st q z z z).st V z z z
    have ab := ((((aP.st o z z z).st U z z z).st p z z z).st q z z z).st V z z z
    have ac := (aS.st q z z z).st V z z z
    have ad := (aT.st q z z z).st V z z z
    exact At.res (.inl z) z (.cell z (bX.runAg 0 [vi c.Scale, vu c.Zero, vi c.Pos.Offset, (vl C D F), vi c.Neg.Offset, (vl G H I), vi d.Scale, vu d.Zero, vi d.Pos.Offset, (vl J K L), vi d.Neg.Offset, (vl M Q S), vi 0] ty126 z z z) .nil) ⟨(vl C D F), (vl G H I), (vl J K L), (vl M Q S), z, (se_ Z z z), (OwnSl.outF aa Z low0 z), (OwnSl.outF ab Z low0 z), (OwnSl.outF ac Z low0 z), (OwnSl.outF ad Z low0 z), (ne_own aa ab z), (ne_own aa ac z), (ne_own ab ac z), (ne_own aa ad z), (ne_own ab ad z), (ne_own ac ad z)⟩
theorem c_ref09_reach {A : Nat → Prop} {v0_1 : Value} {a0 : api_Side} {v1_1 : Value} {a1 : api_Side} {w : World} (hs0_1 : Sl Rep.u w A v0_1 a0.Counts) (hs1_1 : Sl Rep.u w A v1_1 a1.Counts) {r0 : Int} {r1 : Int} {r2 : Bool} (h : ref09_reach a0 a1 = some (r0, r1, r2)) : Rets Tryz.prog 151 [ag [vi a0.Offset, v0_1], ag [vi a1.Offset, v1_1]] w (fun v w' => v = tp [vi r0, vi r1, vB r2] ∧ Ext w w') := by
 unfold ref09_reach at h
 refine Rets.enter Tryz.func151 z z ?_
 have ad : Sl Rep.u w (imm (Lg.O0 A)) v0_1 a0.Counts := (Sl.start hs0_1)
 have an : Sl Rep.u w (imm (Lg.O0 A)) v1_1 a1.Counts := (Sl.start hs1_1)
 refine (show WC _ _ _ _ [(0, ag [vi a0.Offset, v0_1]), (1, ag [vi a1.Offset, v1_1])] _ from ?_)
 refine sq (rg ?_)
 have ao := h
 obtain ⟨aj, ak, al, rfl⟩ := ad.shape
 have h := ao
 refine WL.box (O := (Lg.O0 A)) 11 [vi a0.Offset, (vl aj ak al)] z z z ?_
 intro n aQ aU j ap
 have t := an.i j z z
 have aq := h
 obtain ⟨p, q, r, rfl⟩ := t.shape
 have h := aq
 refine WL.box (O := aQ) 12 [vi a1.Offset, (vl p q r)] z z z ?_
 intro o U F c G
 refine wY (ya z) z (wY (ya z) z (wY (ya z) z (nl (th (sq (sq (rg (wY (yf fo36_1 z) z ?_))))))))
 have C := ap.st c z
 refine wY (yl ty34 z z (C.cell 1 _ z)) z ?_
 have H := (ad.i j z z).i c z z
 refine wY (Y.len ty34 z H) z (wY (Y.eql_i z z) z (wY (ym z) z ?_))
 refine WL.cut 5 (σ := Unit) (fun _ w' => F = w') (fun _ => [(2, pt n 0), (3, pt o 0), (16, vB ((decide ((a0.Counts.length : Int) = 0)) && (decide ((a1.Counts.length : Int) = 0))))]) ?_ ?_
 ·refine WL.part 11 z (fun I => ?_) (fun I => ?_)
  ·refine ug z z (wY (yf fo36_1 z) z (ug z z (wY (yl ty34 z z (G.cell 1 _ z)) z (ug z z ?_))))
   have au := t.i c z z
   refine wY (Y.len ty34 z au) z (ug z z (wY (Y.eql_i z z) z (wY (Y.pick (b := true) z z) z (WL.ren (v' := vB ((decide ((a0.Counts.length : Int) = 0)) && (decide ((a1.Counts.length : Int) = 0)))) 16 z (congrArg vB (andT I)) ?_))))
   exact nl (At.join () z (.cons z (.cons z (.cons z .nil))))
  ·refine WL.gS z z z z (WL.gS z z z z (WL.gS z z z z (WL.gS z z z z (wY (Y.pick (b := false) z z) z (WL.ren (v' := vB ((decide ((a0.Counts.length : Int) = 0)) && (decide ((a1.Counts.length : Int) = 0)))) 16 z (congrArg vB (andF I)) ?_)))))
   exact nl (At.join () z (.cons z (.cons z (.cons z .nil))))
 ·rintro _ _ rfl
  refine (show WL _ _ _ _ _ [(2, pt n 0), (3, pt o 0), (16, vB ((decide ((a0.Counts.length : Int) = 0)) && (decide ((a1.Counts.length : Int) = 0))))] _ from ?_)
  refine nl (th ?_)
  rcases cnd h with ⟨J, h⟩ | ⟨J, h⟩
  ·refine WC.condT' z J (sq (rg (wY (ya z) z (wY (ya z) z (wY (ya z) z (nl (th (rt (At.thenR ?_)))))))))
   obtain ⟨rfl, rfl, rfl⟩ := tup3 h
   have av : Stp [] (Lg.O0 A) w U F := (tr_ (su_ j z) (su_ c z))
   exact At.res (.inl z) z (.tmp z (.tmp z (.tmp z .nil))) ⟨z, (se_ av z z)⟩
  ·refine WC.condF' z J (sk (th (sq ?_)))
   obtain ⟨aR, h, ax⟩ := bnd h
   refine WC.join (σ := (Int × List UInt64 × Own × Value)) (fun x w' => (x.1, x.2.1) = aR ∧ Stp [11] U F x.2.2.1 w' ∧ Sl Rep.u w' (imm x.2.2.1) x.2.2.2 x.2.1 ∧ Blk 11 x.2.2.1 w' n 36 [vi x.1, x.2.2.2]) (fun x => [(2, pt n 0), (3, pt o 0)]) ?_ ?_
   ·refine sq (rg (wY (yf fo36_1 z) z (wY (yl ty34 z z (C.cell 1 _ z)) z (wY (Y.len ty34 z H) z (wY (Y.eql_i z z) z (nl (th ?_)))))))
    rcases cnd h with ⟨K, h⟩ | ⟨K, h⟩
    ·refine WC.condT' z K (rg (wY (yL ty36 z z (G.cells 0 [vi a1.Offset, (vl p q r)] z) z) z (WL.store (v := ag [vi a1.Offset, (vl p q r)]) (cells' := [vi a1.Offset, (vl p q r)]) ty36 z z C z (le_ z) z z ?_)))
     intro aW V ay
     refine nl ?_
     have aA := (t.i c z z).i V z z
     exact At.join (σ := (Int × List UInt64 × Own × Value)) (a1.Offset, a1.Counts, U, (vl p q r)) ⟨some1 h, (su_ V z), aA, ay⟩ (.cons z (.cons z .nil))
    ·refine WC.condF' z K (sk ?_)
     exact At.join (σ := (Int × List UInt64 × Own × Value)) (a0.Offset, a0.Counts, U, (vl aj ak al)) ⟨some1 h, (sr_ _ _ _), H, C⟩ (.cons z (.cons z .nil))
   ·rintro ⟨W, aS, ae, aZ⟩ aC ⟨rfl, l, D, L⟩
    replace h := ax
    try dsimp only at h l D L
    refine (show At _ _ _ [(2, pt n 0), (3, pt o 0)] _ from ?_)
    refine th (sq ?_)
    have aD := h
    obtain ⟨Z, aa, ab, rfl⟩ := D.shape
    have h := aD
    obtain ⟨aT, h, aE⟩ := bnd h
    refine WC.join (σ := (Int × List UInt64 × Own × Value)) (fun x w' => (x.1, x.2.1) = aT ∧ Stp [12] ae aC x.2.2.1 w' ∧ Sl Rep.u w' (imm x.2.2.1) x.2.2.2 x.2.1 ∧ Blk 12 x.2.2.1 w' o 36 [vi x.1, x.2.2.2]) (fun x => [(2, pt n 0), (3, pt o 0)]) ?_ ?_
    ·refine sq (rg (wY (yf fo36_1 z) z ?_))
     have M := G.st l z
     refine wY (yl ty34 z z (M.cell 1 _ z)) z ?_
     have af := (t.i c z z).i l z z
     refine wY (Y.len ty34 z af) z (wY (Y.eql_i z z) z (nl (th ?_)))
     rcases cnd h with ⟨Q, h⟩ | ⟨Q, h⟩
     ·refine WC.condT' z Q (rg (wY (yL ty36 z z (L.cells 0 [vi W, (vl Z aa ab)] z) z) z (WL.store (v := ag [vi W, (vl Z aa ab)]) (cells' := [vi W, (vl Z aa ab)]) ty36 z z M z (le_ z) z z ?_)))
      intro aX ac aG
      refine nl ?_
      have aH := D.i ac z z
      exact At.join (σ := (Int × List UInt64 × Own × Value)) (W, aS, ae, (vl Z aa ab)) ⟨some1 h, (su_ ac z), aH, aG⟩ (.cons z (.cons z .nil))
     ·refine WC.condF' z Q (sk ?_)
      exact At.join (σ := (Int × List UInt64 × Own × Value)) (a1.Offset, a1.Counts, ae, (vl p q r)) ⟨some1 h, (sr_ _ _ _), af, M⟩ (.cons z (.cons z .nil))
    ·rintro ⟨a2, a3, am, a4⟩ aY ⟨rfl, m, ah, ai⟩
     replace h := aE
     try dsimp only at h m ah ai
     refine (show At _ _ _ [(2, pt n 0), (3, pt o 0)] _ from ?_)
     refine th (sq (WC.draw 21 am fmix (by kernel_rfl) ?_))
     intro aI d
     refine WS.y (yf fo36_0 z) z ?_
     have S := (L.st m z).st d z
     refine WS.y (yl ty3 z z (S.cell 0 _ z)) z (WS.y (yf fo36_0 z) z ?_)
     have T := ai.st d z
     refine WS.y (yl ty3 z z (T.cell 0 _ z)) z (WS.y (Y.min_i z z) z (WS.y (yf fo36_0 z) z (WS.y (yl ty3 z z (S.cell 0 _ z)) z (WS.y (yf fo36_1 z) z (WS.y (yl ty34 z z (S.cell 1 _ z)) z ?_)))))
     have aL := (D.i m z z).i d z z
     refine WS.y (Y.len ty34 z aL) z (WS.y (Y.add_i z z) z (WS.y (yf fo36_0 z) z (WS.y (yl ty3 z z (T.cell 0 _ z)) z (WS.y (yf fo36_1 z) z (WS.y (yl ty34 z z (T.cell 1 _ z)) z ?_)))))
     have aM := ah.i d z z
     refine WS.y (Y.len ty34 z aM) z (WS.y (Y.add_i z z) z (WS.y (Y.max_i z z) z (WS.y (Y.sub_i z z) z ?_)))
     obtain ⟨a5, aN, h⟩ := lt1 h
     refine WS.yE (ya z) (congrArg vi aN.symm) z ?_
     obtain ⟨a6, aO, h⟩ := lt1 h
     refine WS.yE (ya z) (congrArg vi aO.symm) z (WS.tail (wY (ya z) z (nl (th (rt ?_)))))
     obtain ⟨rfl, rfl, rfl⟩ := tup3 h
     have aP : Stp [11, 12] (Lg.O0 A) w am aI := (tr_ (su_ j z) (tr_ (su_ c z) (tr_ (su_ l z) (tr_ (su_ m z) (su_ d z)))))
     exact At.res (.inl z) z (.tmp z (.tmp z (.tmp z .nil))) ⟨z, (se_ aP z z)⟩
theorem c_ref09_At {A : Nat → Prop} {v0_1 : Value} {a0 : api_Side} {a1 : Int} {w : World} (hs0_1 : Sl Rep.u w A v0_1 a0.Counts) {r0 : UInt64} (h : ref09_At a0 a1 = some r0) : Rets Tryz.prog 152 [ag [vi a0.Offset, v0_1], vi a1] w (fun v w' => v = vu r0 ∧ Ext w w') := by
 unfold ref09_At at h
 refine Rets.enter Tryz.func152 z z ?_
 have j : Sl Rep.u w (imm (Lg.O0 A)) v0_1 a0.Counts := (Sl.start hs0_1)
 refine (show WC _ _ _ _ [(0, ag [vi a0.Offset, v0_1]), (1, vi a1)] _ from ?_)
 refine sq (rg ?_)
 have C := h
 obtain ⟨Q, S, T, rfl⟩ := j.shape
 have h := C
 refine WL.box (O := (Lg.O0 A)) 11 [vi a0.Offset, (vl Q S T)] z z z ?_
 intro r t l c d
 refine wY (ya (v := vu 0) z) z (nl (th (sq (sq (rg (wY (ym z) z (wY (yf fo36_0 z) z (wY (yl ty3 z z (d.cell 0 _ z)) z (wY (Y.lss_i z z) z ?_)))))))))
 refine wY (ym z) z ?_
 refine WL.cut 9 (σ := Unit) (fun _ w' => l = w') (fun _ => [(1, vi a1), (2, pt r 0), (18, vB ((decide (a1 < a0.Offset)) || (decide (w64 (a0.Offset + (a0.Counts.length : Int)) ≤ a1))))]) ?_ ?_
 ·refine WL.part 9 z (fun m => ?_) (fun m => ?_)
  ·refine WL.gS z z z z (WL.gS z z z z (WL.gS z z z z (WL.gS z z z z (WL.gS z z z z (WL.gS z z z z (WL.gS z z z z (WL.gS z z z z (wY (Y.pick (b := true) z z) z (WL.ren (v' := vB ((decide (a1 < a0.Offset)) || (decide (w64 (a0.Offset + (a0.Counts.length : Int)) ≤ a1)))) 18 z (congrArg vB (orT m)) ?_)))))))))
   exact nl (At.join () z (.cons z (.cons z (.cons z .nil))))
  ·refine ug z z (wY (ym z) z (ug z z (wY (yf fo36_0 z) z (ug z z (wY (yl ty3 z z (d.cell 0 _ z)) z (ug z z (wY (yf fo36_1 z) z (ug z z (wY (yl ty34 z z (d.cell 1 _ z)) z ?_)))))))))
   refine ug z z ?_
   have D := j.i c z z
   refine wY (Y.len ty34 z D) z (ug z z (wY (Y.add_i z z) z (ug z z (wY (Y.geq_i z z) z (wY (Y.pick (b := false) z z) z (WL.ren (v' := vB ((decide (a1 < a0.Offset)) || (decide (w64 (a0.Offset + (a0.Counts.length : Int)) ≤ a1)))) 18 z (congrArg vB (orF m)) ?_))))))
   exact nl (At.join () z (.cons z (.cons z (.cons z .nil))))
 ·rintro _ _ rfl
  refine (show WL _ _ _ _ _ [(1, vi a1), (2, pt r 0), (18, vB ((decide (a1 < a0.Offset)) || (decide (w64 (a0.Offset + (a0.Counts.length : Int)) ≤ a1))))] _ from ?_)
  refine nl (th ?_)
  rcases cnd h with ⟨n, h⟩ | ⟨n, h⟩
  ·refine WC.condT' z n (sq (rg (wY (ya (v := vu 0) z) z (nl (th (rt (At.thenR ?_)))))))
   obtain rfl := some1 h
   have F : Stp [] (Lg.O0 A) w t l := (su_ c z)
   exact At.res (.inl z) z (.tmp z .nil) ⟨z, (se_ F z z)⟩
  ·refine WC.condF' z n (sk (th (sq (rg (wY (yf fo36_1 z) z (wY (yl ty34 z z (d.cell 1 _ z)) z (wY (ym z) z (wY (yf fo36_0 z) z (wY (yl ty3 z z (d.cell 0 _ z)) z ?_)))))))))
   refine wY (Y.sub_i z z) z ?_
   obtain ⟨U, G, h⟩ := bnd h
   have H := j.i c z z
   obtain ⟨aa, V, W, Z, I, J, K, o, p, L⟩ := Sl.at2 H G
   obtain rfl := p
   replace o : CellsAt _ _ _ [vu U] := o
   have q := CAt.imm o L
   refine wY (Y.indexAddr ty34 ty33 z I z J K) z (wY (yl ty33 z z q.at_) z (wY (ya z) z (nl (th (rt ?_)))))
   obtain rfl := some1 h
   have M : Stp [] (Lg.O0 A) w t l := (su_ c z)
   exact At.res (.inl z) z (.tmp z .nil) ⟨z, (se_ M z z)⟩
theorem c_ref09_both {A : Nat → Prop} {v0_1 : Value} {a0 : api_Side} {v1_1 : Value} {a1 : api_Side} {w : World} (hs0_1 : Sl Rep.u w A v0_1 a0.Counts) (hs1_1 : Sl Rep.u w A v1_1 a1.Counts) {r0 : api_Side} {r1 : Bool} (h : ref09_both a0 a1 = some (r0, r1)) : Rets Tryz.prog 132 [ag [vi a0.Offset, v0_1], ag [vi a1.Offset, v1_1]] w (fun v w' => ∃ (ap : Value), v = Value.tuple (List.toArray [ag [vi r0.Offset, ap], vB r1]) ∧ Ext w w' ∧ RowF Rep.u 33 w w' ap r0.Counts) := by
 unfold ref09_both at h
 refine Rets.enter Tryz.func132 z z ?_
 have aq : Sl Rep.u w (imm (Lg.O0 A)) v0_1 a0.Counts := (Sl.start hs0_1)
 have bR : Sl Rep.u w (imm (Lg.O0 A)) v1_1 a1.Counts := (Sl.start hs1_1)
 refine (show WC _ _ _ _ [(0, ag [vi a0.Offset, v0_1]), (1, ag [vi a1.Offset, v1_1])] _ from ?_)
 refine sq (rg ?_)
 have bS := h
 obtain ⟨S, T, U, rfl⟩ := aq.shape
 have h := bS
 refine WL.box (O := (Lg.O0 A)) 11 [vi a0.Offset, (vl S T U)] z z z ?_
 intro bL cn cJ r bT
 have ar := bR.i r z z
 have bU := h
 obtain ⟨V, W, Z, rfl⟩ := ar.shape
 have h := bU
 refine WL.box (O := cn) 12 [vi a1.Offset, (vl V W Z)] z z z ?_
 intro bM co cK o bW
 refine WL.alloc (O := co) 13 [vi 0, sn] ty36 z z ?_
 intro am cq cL j ac
 refine wY (ya z) z (nl (th (sq (rg ?_))))
 have au := (bT.st o z).st j z
 refine wY (yL ty36 z z (au.cells 0 [vi a0.Offset, (vl S T U)] z) z) z ?_
 have av := bW.st j z
 refine wY (yL ty36 z z (av.cells 0 [vi a1.Offset, (vl V W Z)] z) z) z ?_
 have ax := ((aq.i r z z).i o z z).i j z z
 have ay := (ar.i o z z).i j z z
 obtain ⟨⟨m, az, cY⟩, b1, h⟩ := bnd h
 refine WL.call (vals := [ag [vi a0.Offset, (vl S T U)], ag [vi a1.Offset, (vl V W Z)]]) kok151 z z (c_ref09_reach (A := fun _ => True) (a0 := a0) (a1 := a1) (Sl.all ax) (Sl.all ay) b1) ?_
 rintro cM cN ⟨rfl, b2⟩
 obtain ⟨aA, cr, cs, c⟩ := adoptE cq (fun k => 1) b2
 refine wY (ym z) z (wY (yx z z) z (wY (yx z z) z (wY (yx z z) z (wY (ya z) z (wY (ya z) z (wY (ya z) z (nl (th (sq ?_)))))))))
 refine sq (rg (wY (ym z) z (wY (Y.not z) z (nl (th ?_)))))
 rcases cnd h with ⟨ad, h⟩ | ⟨ad, h⟩
 ·refine WC.condT' z ad (sq (rg (wY (yb (vals := []) (cells := [vi 0, sn]) (fe_ z) (by kernel_rfl)) z ?_)))
  have b3 := ac.st c z
  refine WL.store (v := ag [vi 0, sn]) (cells' := [vi 0, sn]) ty36 z z b3 z (le_ z) z z ?_
  intro b4 aL b5
  refine wY (ya z) z (nl (th (rt (At.thenR ?_))))
  obtain ⟨rfl, rfl⟩ := tup2 h
  have b6 : Stp [13] (Lg.O0 A) w aA b4 := (tr_ (su_ r z) (tr_ (su_ o z) (tr_ (su_ j z) (tr_ (su_ c z) (su_ aL z)))))
  exact At.res (.inl z) z (.cell z (b5.runAg 0 [vi 0, sn] ty36 z z z) (.tmp z .nil)) ⟨sn, z, (se_ b6 z z), RowF.nil⟩
 ·refine WC.condF' z ad (sk (th (sq (sq (rg (wY (ym z) z (wY (ym z) z (wY (Y.sub_i z z) z (wY (Y.geq_i z z) z ?_)))))))))
  refine nl (th ?_)
  rcases cnd h with ⟨ae, h⟩ | ⟨ae, h⟩
  ·refine WC.condT' z ae (sq (rg (wY (yb (vals := []) (cells := [vi 0, sn]) (fe_ z) (by kernel_rfl)) z ?_)))
   have b7 := ac.st c z
   refine WL.store (v := ag [vi 0, sn]) (cells' := [vi 0, sn]) ty36 z z b7 z (le_ z) z z ?_
   intro b8 aM b9
   refine wY (ya z) z (nl (th (rt (At.thenR ?_))))
   obtain ⟨rfl, rfl⟩ := tup2 h
   have ca : Stp [13] (Lg.O0 A) w aA b8 := (tr_ (su_ r z) (tr_ (su_ o z) (tr_ (su_ j z) (tr_ (su_ c z) (su_ aM z)))))
   exact At.res (.inl z) z (.cell z (b9.runAg 0 [vi 0, sn] ty36 z z z) (.tmp z .nil)) ⟨sn, z, (se_ ca z z), RowF.nil⟩
  ·refine WC.condF' z ae (sk (th (sq (rg (wY (ym z) z (wY (yb (vals := [(0, vi m)]) (cells := [vi m, sn]) (fe_ z) (by kernel_rfl)) z (WL.alloc (O := aA) 14 [vi 0, sn] ty36 z z ?_)))))))
   intro G aC cO p cb
   refine WL.store (v := ag [vi m, sn]) (cells' := [vi m, sn]) ty36 z z cb z (le_ z) z z ?_
   intro aD q cc
   refine nl (th (sq (sq (rg (wY (ym z) z (wY (ya z) z (nl (th (WC.block ?_)))))))))
   obtain ⟨bO, h, cd⟩ := flow1 h
   obtain ⟨bP, h⟩ := loop_some h
   refine WC.joinB 0 (σ := (List UInt64 × Own × Value)) (fun x w' => bO = .go x.1 ∧ Stp [14, 16, 1001] aC aD x.2.1 w' ∧ OwnSl 1002 Rep.u 33 x.2.1 w' x.2.2 x.1 ∧ Blk 14 x.2.1 w' G 36 [vi m, x.2.2]) (fun x => [(4, pt am 0), (9, pt G 0)]) ?_ ?_
   ·refine WC.loop (σ := (List UInt64 × Int × Own × Value)) (fun x k w' => loopN k (ref09_both_lp1 a0 a1 az) (x.1, x.2.1) = some bO ∧ Stp [14, 16, 1001] aC aD x.2.2.1 w' ∧ OwnSl 1001 Rep.u 33 x.2.2.1 w' x.2.2.2 x.1 ∧ Blk 14 x.2.2.1 w' G 36 [vi m, x.2.2.2]) (fun x => [(2, pt bL 0), (3, pt bM 0), (4, pt am 0), (7, vi az), (9, pt G 0), (10, vi x.2.1)]) ([], m, aC, sn) bP (.cons z (.cons z (.cons z (.cons z (.cons z (.cons z .nil)))))) ⟨h, (sr_ _ _ _), (OwnSl.nil 1001 Rep.u 33), cc⟩ ?_
    rintro ⟨ct, aE, bQ, cu⟩ bP cP ⟨h, l, af, H⟩
    obtain ⟨cv, cZ, rfl, h, aF⟩ := rnd1 h
    unfold ref09_both_lp1 at h
    try dsimp only at h l af H
    refine (show WC _ _ _ _ [(2, pt bL 0), (3, pt bM 0), (4, pt am 0), (7, vi az), (9, pt G 0), (10, vi aE)] _ from ?_)
    refine sq (sq (rg (wY (ym z) z (wY (ym z) z (wY (Y.leq_i z z) z (nl (th ?_)))))))
    rcases cnd h with ⟨ah, h⟩ | ⟨ah, h⟩
    ·refine WC.condT' z ah (sk (th (sq (WC.block (WC.drawH [1001] [0, 1, 2, 3, 4, 5, 6, 7, 8, 9, 10, 11] bQ 13 fmix z (by kernel_rfl) ?_)))))
     intro cQ d
     refine WD.y 0 z (by kernel_rfl) (fun _ _ _ => yf fo36_1 z) z (WD.y 1 z (by kernel_rfl) (fun cy cR aG => have aN := H.st d z; have aO := aN.st aG z; yl ty34 z z (aO.cell 1 _ z)) z (WD.y 2 z (by kernel_rfl) (fun cz cS aH => have aP := au.st c z; have aQ := aP.st p z; have aR := aQ.st q z; have aS := aR.st l z; have aT := aS.st d z; have aU := aT.st aH z; yL ty36 z z (aU.cells 0 [vi a0.Offset, (vl S T U)] z) z) z (WD.y 3 z (by kernel_rfl) (fun _ _ _ => ym z) z (WD.y 5 z (by kernel_rfl) (fun cA cT aI => have aW := av.st c z; have aX := aW.st p z; have aY := aX.st q z; have aZ := aY.st l z; have a2 := aZ.st d z; have a3 := a2.st aI z; yL ty36 z z (a3.cells 0 [vi a1.Offset, (vl V W Z)] z) z) z (WD.y 6 z (by kernel_rfl) (fun _ _ _ => ym z) z (WD.heavy 4 z (by kernel_rfl) ?_))))))
     have a8 := ((((ax.i c z z).i p z z).i q z z).i l z z).i d z z
     obtain ⟨I, a9, h⟩ := bnd h
     refine WL.call (vals := [ag [vi a0.Offset, (vl S T U)], vi aE]) kok152 z z (c_ref09_At (A := fun _ => True) (a0 := a0) (Sl.all a8) a9) ?_
     rintro cC cD ⟨rfl, ba⟩
     obtain ⟨ce, cj, ck, n⟩ := adoptE bQ (fun k => 1) ba
     refine nl (At.dq (su_ n z) (WD.heavy 7 z (by kernel_rfl) ?_))
     have bh := (((((ay.i c z z).i p z z).i q z z).i l z z).i d z z).i n z z
     obtain ⟨J, bi, h⟩ := bnd h
     refine WL.call (vals := [ag [vi a1.Offset, (vl V W Z)], vi aE]) kok152 z z (c_ref09_At (A := fun _ => True) (a0 := a1) (Sl.all bh) bi) ?_
     rintro cE cF ⟨rfl, bj⟩
     obtain ⟨cf, cl, cm, t⟩ := adoptE ce (fun k => 1) bj
     refine nl (At.dq (su_ t z) (WD.y 8 z (by kernel_rfl) (fun _ _ _ => Y.add_u z z) z (WD.heavy 9 z (by kernel_rfl) (WL.buildSlice (O := cf) (R := Rep.u) (vals := [(0, vu (I + J))]) 15 [vu (I + J)] (xs := [(I + J)]) (by decide) ty34 ty33 (by decide) (by decide) (fe_ z) (by kernel_rfl) z ⟨[vu (I + J)], [], z, z, z⟩ z ?_))))
     intro cU cV cG C bk
     refine nl (At.dq (su_ C z) (WD.heavy 10 z (by kernel_rfl) ?_))
     obtain ⟨bl, aJ, h⟩ := bnd h
     have bp := (((af.st d z z z).st n z z z).st t z z z).st C z z z
     refine WL.append (by decide) ty34 ty33 z (by decide) z z bp bk.src aJ z ?_
     intro cW cg cH D an
     refine nl (At.dq (su_ D z) (WD.y 11 z (by kernel_rfl) (fun _ _ _ => yf fo36_1 z) z (WD.phase [14] [0, 1, 2, 3, 4, 5, 6, 7, 8, 9, 10, 11, 12] (by kernel_rfl) (by kernel_rfl) (WD.heavy 12 z (by kernel_rfl) ?_))))
     have bq := h
     obtain ⟨ai, aj, ak, rfl⟩ := an.shape
     have h := bq
     have bw := ((((H.st d z).st n z).st t z).st C z).st D z
     refine WL.store (v := (vl ai aj ak)) (cells' := [vi m, (vl ai aj ak)]) ty34 z z bw z (le_ z) z z ?_
     intro cI F bx
     refine nl (At.dq (su_ F z) (WD.done_ (by kernel_rfl) (At.inBlock (th (rg (wY (ym z) z (wY (Y.add_i z z) z ?_)))))))
     obtain ⟨ch, bz, h⟩ := lt1 h
     refine WL.yE (ya z) (congrArg vi bz.symm) z (nl ?_)
     have bA := an.st F z z z
     exact At.round (bl, ch, cg, (vl ai aj ak)) cv (Nat.lt_succ_self _) ⟨next1 h aF, (tr_ (su_ l z) (tr_ (su_ d z) (tr_ (su_ n z) (tr_ (su_ t z) (tr_ (su_ C z) (tr_ (su_ D z) (su_ F z))))))), bA, bx⟩ (.cons z (.cons z (.cons z (.cons z (.cons z (.cons z .nil))))))
    ·refine WC.condF' z ah (WC.exit (At.thenX (At.loopX ?_)))
     obtain ⟨ci, aa, bB⟩ := OwnSl.rlb 1002 rfl af
     have bC := H.st aa z
     exact At.hitB (σ := (List UInt64 × Own × Value)) (ct, ci, cu) ⟨brk1 h aF, (tr_ (su_ l z) (su_ aa z)), bB, bC⟩ (.cons z (.cons z .nil))
   ·rintro ⟨c0, cw, cx⟩ cX ⟨rfl, K, al, aK⟩
    replace h := flowK_go cd
    try dsimp only at h K al aK
    refine (show At _ _ _ [(4, pt am 0), (9, pt G 0)] _ from ?_)
    refine At.inBlockHit (th (sq (rg (wY (yL ty36 z z (aK.cells 0 [vi m, cx] z) z) z ?_))))
    have bD := h
    obtain ⟨L, M, Q, rfl⟩ := al.shape
    have h := bD
    have bH := (((ac.st c z).st p z).st q z).st K z
    refine WL.store (v := ag [vi m, (vl L M Q)]) (cells' := [vi m, (vl L M Q)]) ty36 z z bH z (le_ z) z z ?_
    intro bI ab bJ
    refine wY (ya z) z (nl (th (rt ?_)))
    obtain ⟨rfl, rfl⟩ := tup2 h
    have ao : Stp [13, 14, 16, 1001] (Lg.O0 A) w cw bI := (tr_ (su_ r z) (tr_ (su_ o z) (tr_ (su_ j z) (tr_ (su_ c z) (tr_ (su_ p z) (tr_ (su_ q z) (tr_ (su_ K z) (su_ ab z))))))))
    have bK := al.st ab z z z
    exact At.res (.inl z) z (.cell z (bJ.runAg 0 [vi m, (vl L M Q)] ty36 z z z) (.tmp z .nil)) ⟨(vl L M Q), z, (se_ ao z z), (OwnSl.outF bK ao low0 z)⟩
theorem c_ref09_Merge {A : Nat → Prop} {v0_3 : Value} {v0_5 : Value} {a0 : api_Hist} {v1_3 : Value} {v1_5 : Value} {a1 : api_Hist} {w : World} (hs0_3 : Sl Rep.u w A v0_3 a0.Pos.Counts) (hs0_5 : Sl Rep.u w A v0_5 a0.Neg.Counts) (hs1_3 : Sl Rep.u w A v1_3 a1.Pos.Counts) (hs1_5 : Sl Rep.u w A v1_5 a1.Neg.Counts) {r0 : api_Hist} {r1 : Int} (h : ref09_Merge a0 a1 = some (r0, r1)) : Rets Tryz.prog 106 [ag (hl a0 v0_3 v0_5), ag (hl a1 v1_3 v1_5)] w (fun v w' => ∃ (aF : Value) (aG : Value), v = Value.tuple (List.toArray [ag (hl r0 aF aG), vi r1]) ∧ Ext w w' ∧ RowF Rep.u 33 w w' aF r0.Pos.Counts ∧ RowF Rep.u 33 w w' aG r0.Neg.Counts ∧ (∀ k, ob aF = some k → ob aG ≠ some k)) := by
 unfold ref09_Merge at h
 refine Rets.enter Tryz.func106 z z ?_
 have aW : Sl Rep.u w (imm (Lg.O0 A)) v0_3 a0.Pos.Counts := (Sl.start hs0_3)
 have aX : Sl Rep.u w (imm (Lg.O0 A)) v0_5 a0.Neg.Counts := (Sl.start hs0_5)
 have c7 : Sl Rep.u w (imm (Lg.O0 A)) v1_3 a1.Pos.Counts := (Sl.start hs1_3)
 have c8 : Sl Rep.u w (imm (Lg.O0 A)) v1_5 a1.Neg.Counts := (Sl.start hs1_5)
 refine (show WC _ _ _ _ [(0, ag (hl a0 v0_3 v0_5)), (1, ag (hl a1 v1_3 v1_5))] _ from ?_)
 refine sq (rg ?_)
 have c9 := h
 obtain ⟨aY, aZ, a2, rfl⟩ := aW.shape
 have h := c9
 have da := h
 obtain ⟨a3, a4, a5, rfl⟩ := aX.shape
 have h := da
 refine WL.box (O := (Lg.O0 A)) 11 (hl a0 (vl aY aZ a2) (vl a3 a4 a5)) z z z ?_
 intro eo dN ed F db
 have a6 := c7.i F z z
 have dc := h
 obtain ⟨a7, a8, a9, rfl⟩ := a6.shape
 have h := dc
 have ba := c8.i F z z
 have dd := h
 obtain ⟨bb, bc, bd, rfl⟩ := ba.shape
 have h := dd
 refine WL.box (O := dN) 12 (hl a1 (vl a7 a8 a9) (vl bb bc bd)) z z z ?_
 intro ep dO ee t de
 refine WL.alloc (O := dO) 13 hzr ty38 z z ?_
 intro c4 dP ef n am
 refine wY (ya z) z (nl (th (sq (rg ?_))))
 have dg := (db.st t z).st n z
 refine wY (yL ty38 z z (dg.cells 0 (hl a0 (vl aY aZ a2) (vl a3 a4 a5)) z) z) z ?_
 have dh := de.st n z
 refine wY (yL ty38 z z (dh.cells 0 (hl a1 (vl a7 a8 a9) (vl bb bc bd)) z) z) z ?_
 have dk := ((aW.i F z z).i t z z).i n z z
 have dn := ((aX.i F z z).i t z z).i n z z
 have dr := (a6.i t z z).i n z z
 have dt := (ba.i t z z).i n z z
 obtain ⟨c, du, h⟩ := bnd h
 refine WL.call (vals := [ag (hl a0 (vl aY aZ a2) (vl a3 a4 a5)), ag (hl a1 (vl a7 a8 a9) (vl bb bc bd))]) kok104 z z (c_ref09_Level (A := fun _ => True) (a0 := a0) (a1 := a1) (Sl.all dk) (Sl.all dn) (Sl.all dr) (Sl.all dt) du) ?_
 rintro eg an ⟨aC, aH, bf, c5, rfl, dw, dQ, dR, dS, dT, dU, dV, dW, dX, dY, dZ⟩
 obtain ⟨aD, d0, T, G⟩ := adoptE dP (fun k => if ob aC = some k then 14 else if ob aH = some k then 15 else if ob bf = some k then 16 else if ob c5 = some k then 17 else 1) dw
 have dx : OwnSl 14 Rep.u 33 aD an aC c.X.Pos.Counts := RowF.adopt 14 Flat.u dQ T (fun k hk => if_pos hk)
 have dy : OwnSl 15 Rep.u 33 aD an aH c.X.Neg.Counts := RowF.adopt 15 Flat.u dR T (fun k hk => (if_neg (fun (e : ob aC = some k) => dU k e hk)).trans (if_pos hk))
 have dz : OwnSl 16 Rep.u 33 aD an bf c.Y.Pos.Counts := RowF.adopt 16 Flat.u dS T (fun k hk => (if_neg (fun (e : ob aC = some k) => dV k e hk)).trans ((if_neg (fun (e : ob aH = some k) => dW k e hk)).trans (if_pos hk)))
 have dA : OwnSl 17 Rep.u 33 aD an c5 c.Y.Neg.Counts := RowF.adopt 17 Flat.u dT T (fun k hk => (if_neg (fun (e : ob aC = some k) => dX k e hk)).trans ((if_neg (fun (e : ob aH = some k) => dY k e hk)).trans ((if_neg (fun (e : ob bf = some k) => dZ k e hk)).trans (if_pos hk))))
 refine WL.alloc (O := aD) 18 [vi 0, vu 0, vi 0, sn, vi 0, sn, vi 0, vu 0, vi 0, sn, vi 0, sn, vi 0] ty126 z z ?_
 intro c6 bg eh m dB
 have bh := dx.st m z z z
 have dC := h
 obtain ⟨ai, aj, ak, rfl⟩ := bh.shape
 have h := dC
 have bi := dy.st m z z z
 have bu := h
 obtain ⟨al, U, V, rfl⟩ := bi.shape
 have h := bu
 have aI := dz.st m z z z
 have bw := h
 obtain ⟨W, Z, aa, rfl⟩ := aI.shape
 have h := bw
 have aJ := dA.st m z z z
 have bx := h
 obtain ⟨ab, ac, ad, rfl⟩ := aJ.shape
 have h := bx
 refine WL.store (v := ag [vi c.X.Scale, vu c.X.Zero, vi c.X.Pos.Offset, (vl ai aj ak), vi c.X.Neg.Offset, (vl al U V), vi c.Y.Scale, vu c.Y.Zero, vi c.Y.Pos.Offset, (vl W Z aa), vi c.Y.Neg.Offset, (vl ab ac ad), vi c.E]) (cells' := [vi c.X.Scale, vu c.X.Zero, vi c.X.Pos.Offset, (vl ai aj ak), vi c.X.Neg.Offset, (vl al U V), vi c.Y.Scale, vu c.Y.Zero, vi c.Y.Pos.Offset, (vl W Z aa), vi c.Y.Neg.Offset, (vl ab ac ad), vi c.E]) ty126 z z dB z (le_ z) z z ?_
 intro d1 d ae
 refine nl (th (sq (sq (rg (wY (yf fo126_2 z) z (wY (yl ty25 z z (ae.cell 12 _ z)) z (wY (Y.neq_i z z) z (nl (th ?_)))))))))
 rcases cnd h with ⟨ao, h⟩ | ⟨ao, h⟩
 ·refine WC.condT' z ao (sq (WC.drawH [13] [0, 1, 2, 3, 4] bg 5 fmix z (by kernel_rfl) ?_))
  intro d2 af
  refine WD.y 0 z (by kernel_rfl) (fun _ _ _ => yb (vals := []) (cells := hzr) (fe_ z) (by kernel_rfl)) z (WD.y 1 z (by kernel_rfl) (fun _ _ _ => yf fo126_2 z) z (WD.y 2 z (by kernel_rfl) (fun d3 ei bj => have bz := ae.st af z; have bA := bz.st bj z; yl ty25 z z (bA.cell 12 _ z)) z (WD.heavy 3 z (by kernel_rfl) ?_)))
  have bE := (((am.st G z).st m z).st d z).st af z
  refine WL.store (v := ag hzr) (cells' := hzr) ty38 z z bE z (le_ z) z z ?_
  intro bF aE bG
  refine nl (At.dq (su_ aE z) (WD.y 4 z (by kernel_rfl) (fun _ _ _ => ya z) z (WD.done_ (by kernel_rfl) (th (rt (At.thenR ?_))))))
  obtain ⟨rfl, rfl⟩ := tup2 h
  have bH : Stp [13, 18] (Lg.O0 A) w bg bF := (tr_ (su_ F z) (tr_ (su_ t z) (tr_ (su_ n z) (tr_ (su_ G z) (tr_ (su_ m z) (tr_ (su_ d z) (tr_ (su_ af z) (su_ aE z))))))))
  exact At.res (.inl z) z (.cell z (bG.runAg 0 hzr ty38 z z z) (.tmp z .nil)) ⟨sn, sn, z, (se_ bH z z), RowF.nil, RowF.nil, (fun _ e => absurd e not_nil)⟩
 ·refine WC.condF' z ao (sk (th (sq (rg (wY (yf fo126_0 z) z (wY (yL ty38 z z (ae.cells 0 [vi c.X.Scale, vu c.X.Zero, vi c.X.Pos.Offset, (vl ai aj ak), vi c.X.Neg.Offset, (vl al U V)] z) z) z ?_))))))
  have aK := bh.st d z z z
  have aL := bi.st d z z z
  obtain ⟨⟨ej, ek⟩, bI, h⟩ := bnd h
  refine WL.call (vals := [ag [vi c.X.Scale, vu c.X.Zero, vi c.X.Pos.Offset, (vl ai aj ak), vi c.X.Neg.Offset, (vl al U V)]]) kok97 z z (c_ref08_Total (A := fun _ => True) (a0 := c.X) (aK.src.sl) (aL.src.sl) bI) ?_
  rintro d4 d5 ⟨rfl, bJ⟩
  obtain ⟨dD, dH, dI, j⟩ := adoptE bg (fun k => 1) bJ
  refine wY (ym z) z (wY (yx z z) z (wY (yx z z) z (wY (ya z) z (wY (ya z) z (nl (th (sq (rg (wY (yf fo126_1 z) z ?_)))))))))
  have aM := ae.st j z
  refine wY (yL ty38 z z (aM.cells 6 [vi c.Y.Scale, vu c.Y.Zero, vi c.Y.Pos.Offset, (vl W Z aa), vi c.Y.Neg.Offset, (vl ab ac ad)] z) z) z ?_
  have aN := (aI.st d z z z).st j z z z
  have aO := (aJ.st d z z z).st j z z z
  obtain ⟨⟨em, en⟩, bM, h⟩ := bnd h
  refine WL.call (vals := [ag [vi c.Y.Scale, vu c.Y.Zero, vi c.Y.Pos.Offset, (vl W Z aa), vi c.Y.Neg.Offset, (vl ab ac ad)]]) kok97 z z (c_ref08_Total (A := fun _ => True) (a0 := c.Y) (aN.src.sl) (aO.src.sl) bM) ?_
  rintro d6 d7 ⟨rfl, bO⟩
  obtain ⟨bk, dJ, dK, l⟩ := adoptE dD (fun k => 1) bO
  refine wY (ym z) z (wY (yx z z) z (wY (yx z z) z (wY (ya z) z (wY (ya z) z (nl (th (sq (sq (rg ?_)))))))))
  refine wY (ym z) z (wY (ym z) z (wY (Y.sub_u (a := 18446744073709551615) z z) z (wY (Y.gtr_u z z) z (nl (th ?_)))))
  rcases cnd h with ⟨ap, h⟩ | ⟨ap, h⟩
  ·refine WC.condT' z ap (sq (rg (wY (yb (vals := []) (cells := hzr) (fe_ z) (by kernel_rfl)) z ?_)))
   have bT := ((((am.st G z).st m z).st d z).st j z).st l z
   refine WL.store (v := ag hzr) (cells' := hzr) ty38 z z bT z (le_ z) z z ?_
   intro bU bl bW
   refine wY (ya z) z (nl (th (rt (At.thenR ?_))))
   obtain ⟨rfl, rfl⟩ := tup2 h
   have bX : Stp [13, 18] (Lg.O0 A) w bk bU := (tr_ (su_ F z) (tr_ (su_ t z) (tr_ (su_ n z) (tr_ (su_ G z) (tr_ (su_ m z) (tr_ (su_ d z) (tr_ (su_ j z) (tr_ (su_ l z) (su_ bl z)))))))))
   exact At.res (.inl z) z (.cell z (bW.runAg 0 hzr ty38 z z z) (.tmp z .nil)) ⟨sn, sn, z, (se_ bX z z), RowF.nil, RowF.nil, (fun _ e => absurd e not_nil)⟩
  ·refine WC.condF' z ap (sk (th (sq (rg (wY (yf fo126_0 z) z (wY (yf fo38_2 z) z ?_))))))
   have aq := aM.st l z
   refine wY (yL ty36 z z (aq.cells 2 [vi c.X.Pos.Offset, (vl ai aj ak)] z) z) z (wY (yf fo126_1 z) z (wY (yf fo38_2 z) z (wY (yL ty36 z z (aq.cells 8 [vi c.Y.Pos.Offset, (vl W Z aa)] z) z) z ?_)))
   have bZ := (aK.st j z z z).st l z z z
   have b0 := aN.st l z z z
   obtain ⟨⟨H, ar⟩, b1, h⟩ := bnd h
   refine WL.call (vals := [ag [vi c.X.Pos.Offset, (vl ai aj ak)], ag [vi c.Y.Pos.Offset, (vl W Z aa)]]) kok132 z z (c_ref09_both (A := fun _ => True) (a0 := c.X.Pos) (a1 := c.Y.Pos) (bZ.src.sl) (b0.src.sl) b1) ?_
   rintro d8 b2 ⟨bm, rfl, b3, dE⟩
   obtain ⟨bn, dL, aT, C⟩ := adoptE bk (fun k => if ob bm = some k then 19 else 1) b3
   have b4 : OwnSl 19 Rep.u 33 bn b2 bm H.Counts := RowF.adopt 19 Flat.u dE aT (fun k hk => if_pos hk)
   refine wY (ym z) z (wY (yx z z) z (wY (yx z z) z (WL.alloc (O := bn) 20 [vi 0, sn] ty36 z z ?_)))
   intro bo dF d9 o b5
   have aP := b4.st o z z z
   have b6 := h
   obtain ⟨I, J, K, rfl⟩ := aP.shape
   have h := b6
   refine WL.store (v := ag [vi H.Offset, (vl I J K)]) (cells' := [vi H.Offset, (vl I J K)]) ty36 z z b5 z (le_ z) z z ?_
   intro ea p b7
   refine wY (ya z) z (nl (th (sq (rg (wY (yf fo126_0 z) z (wY (yf fo38_3 z) z ?_))))))
   have au := ((aq.st C z).st o z).st p z
   refine wY (yL ty36 z z (au.cells 4 [vi c.X.Neg.Offset, (vl al U V)] z) z) z (wY (yf fo126_1 z) z (wY (yf fo38_3 z) z (wY (yL ty36 z z (au.cells 10 [vi c.Y.Neg.Offset, (vl ab ac ad)] z) z) z ?_)))
   have ce := ((((aL.st j z z z).st l z z z).st C z z z).st o z z z).st p z z z
   have ci := (((aO.st l z z z).st C z z z).st o z z z).st p z z z
   obtain ⟨⟨L, av⟩, cj, h⟩ := bnd h
   refine WL.call (vals := [ag [vi c.X.Neg.Offset, (vl al U V)], ag [vi c.Y.Neg.Offset, (vl ab ac ad)]]) kok132 z z (c_ref09_both (A := fun _ => True) (a0 := c.X.Neg) (a1 := c.Y.Neg) (ce.src.sl) (ci.src.sl) cj) ?_
   rintro eb ck ⟨bp, rfl, cl, dG⟩
   obtain ⟨bq, dM, aU, D⟩ := adoptE dF (fun k => if ob bp = some k then 21 else 1) cl
   have cm : OwnSl 21 Rep.u 33 bq ck bp L.Counts := RowF.adopt 21 Flat.u dG aU (fun k hk => if_pos hk)
   refine wY (ym z) z (wY (yx z z) z (wY (yx z z) z (WL.alloc (O := bq) 22 [vi 0, sn] ty36 z z ?_)))
   intro br bs ec q cn
   have aQ := cm.st q z z z
   have co := h
   obtain ⟨M, Q, S, rfl⟩ := aQ.shape
   have h := co
   refine WL.store (v := ag [vi L.Offset, (vl M Q S)]) (cells' := [vi L.Offset, (vl M Q S)]) ty36 z z cn z (le_ z) z z ?_
   intro cq r cr
   refine wY (ya z) z (nl (th (sq (sq (rg (wY (ym z) z (wY (Y.not z) z (wY (ym z) z ?_))))))))
   refine WL.cut 3 (σ := Unit) (fun _ w' => cq = w') (fun _ => [(4, pt c4 0), (6, pt c6 0), (11, pt bo 0), (13, pt br 0), (66, vB ((!ar) || (!av)))]) ?_ ?_
   ·refine WL.part 63 z (fun ax => ?_) (fun ax => ?_)
    ·refine WL.gS z z z z (WL.gS z z z z (wY (Y.pick (b := true) z z) z (WL.ren (v' := vB ((!ar) || (!av))) 66 z (congrArg vB (orT ax)) ?_)))
     exact nl (At.join () z (.cons z (.cons z (.cons z (.cons z (.cons z .nil))))))
    ·refine ug z z (wY (ym z) z (ug z z (wY (Y.not z) z (wY (Y.pick (b := false) z z) z (WL.ren (v' := vB ((!ar) || (!av))) 66 z (congrArg vB (orF ax)) ?_)))))
     exact nl (At.join () z (.cons z (.cons z (.cons z (.cons z (.cons z .nil))))))
   ·rintro _ _ rfl
    refine (show WL _ _ _ _ _ [(4, pt c4 0), (6, pt c6 0), (11, pt bo 0), (13, pt br 0), (66, vB ((!ar) || (!av)))] _ from ?_)
    refine nl (th ?_)
    rcases cnd h with ⟨ay, h⟩ | ⟨ay, h⟩
    ·refine WC.condT' z ay (sq (rg (wY (yb (vals := []) (cells := hzr) (fe_ z) (by kernel_rfl)) z ?_)))
     have cD := ((((((((((am.st G z).st m z).st d z).st j z).st l z).st C z).st o z).st p z).st D z).st q z).st r z
     refine WL.store (v := ag hzr) (cells' := hzr) ty38 z z cD z (le_ z) z z ?_
     intro cE bt cF
     refine wY (ya z) z (nl (th (rt (At.thenR ?_))))
     obtain ⟨rfl, rfl⟩ := tup2 h
     have cG : Stp [13, 18, 20, 22] (Lg.O0 A) w bs cE := (tr_ (su_ F z) (tr_ (su_ t z) (tr_ (su_ n z) (tr_ (su_ G z) (tr_ (su_ m z) (tr_ (su_ d z) (tr_ (su_ j z) (tr_ (su_ l z) (tr_ (su_ C z) (tr_ (su_ o z) (tr_ (su_ p z) (tr_ (su_ D z) (tr_ (su_ q z) (tr_ (su_ r z) (su_ bt z)))))))))))))))
     exact At.res (.inl z) z (.cell z (cF.runAg 0 hzr ty38 z z z) (.tmp z .nil)) ⟨sn, sn, z, (se_ cG z z), RowF.nil, RowF.nil, (fun _ e => absurd e not_nil)⟩
    ·refine WC.condF' z ay (sk (th (sq (rg (wY (yf fo126_0 z) z (wY (yf fo38_0 z) z ?_))))))
     have az := ((au.st D z).st q z).st r z
     refine wY (yl ty3 z z (az.cell 0 _ z)) z (wY (yf fo126_0 z) z (wY (yf fo38_1 z) z (wY (yl ty33 z z (az.cell 1 _ z)) z (wY (yf fo126_1 z) z (wY (yf fo38_1 z) z (wY (yl ty33 z z (az.cell 7 _ z)) z (wY (Y.add_u z z) z ?_)))))))
     have cL := ((b7.st D z).st q z).st r z
     refine wY (yL ty36 z z (cL.cells 0 [vi H.Offset, (vl I J K)] z) z) z (wY (yL ty36 z z (cr.cells 0 [vi L.Offset, (vl M Q S)] z) z) z (wY (yb (vals := [(0, vi c.X.Scale), (1, vu (c.X.Zero + c.Y.Zero)), (2, ag [vi H.Offset, (vl I J K)]), (3, ag [vi L.Offset, (vl M Q S)])]) (cells := [vi c.X.Scale, vu (c.X.Zero + c.Y.Zero), vi H.Offset, (vl I J K), vi L.Offset, (vl M Q S)]) (fe_ z) (by kernel_rfl)) z ?_))
     have cW := ((((((((((am.st G z).st m z).st d z).st j z).st l z).st C z).st o z).st p z).st D z).st q z).st r z
     refine WL.store (v := ag [vi c.X.Scale, vu (c.X.Zero + c.Y.Zero), vi H.Offset, (vl I J K), vi L.Offset, (vl M Q S)]) (cells' := [vi c.X.Scale, vu (c.X.Zero + c.Y.Zero), vi H.Offset, (vl I J K), vi L.Offset, (vl M Q S)]) ty38 z z cW z (le_ z) z z ?_
     intro cX ah cY
     refine wY (ya z) z (nl (th (rt ?_)))
     obtain ⟨rfl, rfl⟩ := tup2 h
     have aA : Stp [13, 18, 20, 22] (Lg.O0 A) w bs cX := (tr_ (su_ F z) (tr_ (su_ t z) (tr_ (su_ n z) (tr_ (su_ G z) (tr_ (su_ m z) (tr_ (su_ d z) (tr_ (su_ j z) (tr_ (su_ l z) (tr_ (su_ C z) (tr_ (su_ o z) (tr_ (su_ p z) (tr_ (su_ D z) (tr_ (su_ q z) (tr_ (su_ r z) (su_ ah z)))))))))))))))
     have aR := ((((aP.st p z z z).st D z z z).st q z z z).st r z z z).st ah z z z
     have aS := (aQ.st r z z z).st ah z z z
     exact At.res (.inl z) z (.cell z (cY.runAg 0 [vi c.X.Scale, vu (c.X.Zero + c.Y.Zero), vi H.Offset, (vl I J K), vi L.Offset, (vl M Q S)] ty38 z z z) (.tmp z .nil)) ⟨(vl I J K), (vl M Q S), z, (se_ aA z z), (OwnSl.outF aR aA low0 z), (OwnSl.outF aS aA low0 z), (ne_own aR aS z)⟩
theorem c_ref16_Together {A : Nat → Prop} {v0_3 : Value} {v0_5 : Value} {a0 : api_Hist} {v1_3 : Value} {v1_5 : Value} {a1 : api_Hist} {a2 : Int} {w : World} (hs0_3 : Sl Rep.u w A v0_3 a0.Pos.Counts) (hs0_5 : Sl Rep.u w A v0_5 a0.Neg.Counts) (hs1_3 : Sl Rep.u w A v1_3 a1.Pos.Counts) (hs1_5 : Sl Rep.u w A v1_5 a1.Neg.Counts) {r0 : api_Hist} {r1 : Bool} (h : ref16_Together a0 a1 a2 = some (r0, r1)) : Rets Tryz.prog 61 [ag (hl a0 v0_3 v0_5), ag (hl a1 v1_3 v1_5), vi a2] w (fun v w' => ∃ (a4 : Value) (a5 : Value), v = Value.tuple (List.toArray [ag (hl r0 a4 a5), vB r1]) ∧ Ext w w' ∧ RowF Rep.u 33 w w' a4 r0.Pos.Counts ∧ RowF Rep.u 33 w w' a5 r0.Neg.Counts ∧ (∀ k, ob a4 = some k → ob a5 ≠ some k)) := by
 unfold ref16_Together at h
 refine Rets.enter Tryz.func61 z z ?_
 have bA : Sl Rep.u w (imm (Lg.O0 A)) v0_3 a0.Pos.Counts := (Sl.start hs0_3)
 have bB : Sl Rep.u w (imm (Lg.O0 A)) v0_5 a0.Neg.Counts := (Sl.start hs0_5)
 have dQ : Sl Rep.u w (imm (Lg.O0 A)) v1_3 a1.Pos.Counts := (Sl.start hs1_3)
 have dR : Sl Rep.u w (imm (Lg.O0 A)) v1_5 a1.Neg.Counts := (Sl.start hs1_5)
 refine (show WC _ _ _ _ [(0, ag (hl a0 v0_3 v0_5)), (1, ag (hl a1 v1_3 v1_5)), (2, vi a2)] _ from ?_)
 refine sq (rg ?_)
 have dS := h
 obtain ⟨bC, bD, bE, rfl⟩ := bA.shape
 have h := dS
 have dT := h
 obtain ⟨bF, bG, bH, rfl⟩ := bB.shape
 have h := dT
 refine WL.box (O := (Lg.O0 A)) 11 (hl a0 (vl bC bD bE) (vl bF bG bH)) z z z ?_
 intro fe eD e1 H dU
 have bI := dQ.i H z z
 have dV := h
 obtain ⟨bJ, bK, bL, rfl⟩ := bI.shape
 have h := dV
 have bM := dR.i H z z
 have dW := h
 obtain ⟨bO, bP, bQ, rfl⟩ := bM.shape
 have h := dW
 refine WL.box (O := eD) 12 (hl a1 (vl bJ bK bL) (vl bO bP bQ)) z z z ?_
 intro ff eE e2 F dX
 refine WL.alloc (O := eE) 13 hzr ty38 z z ?_
 intro ab eF e5 t aj
 refine wY (ya z) z (nl (th (sq (rg ?_))))
 have dZ := (dU.st F z).st t z
 refine wY (yL ty38 z z (dZ.cells 0 (hl a0 (vl bC bD bE) (vl bF bG bH)) z) z) z ?_
 have d0 := dX.st t z
 refine wY (yL ty38 z z (d0.cells 0 (hl a1 (vl bJ bK bL) (vl bO bP bQ)) z) z) z ?_
 have d3 := ((bA.i H z z).i F z z).i t z z
 have d6 := ((bB.i H z z).i F z z).i t z z
 have d8 := (bI.i F z z).i t z z
 have ea := (bM.i F z z).i t z z
 obtain ⟨c, eb, h⟩ := bnd h
 refine WL.call (vals := [ag (hl a0 (vl bC bD bE) (vl bF bG bH)), ag (hl a1 (vl bJ bK bL) (vl bO bP bQ))]) kok104 z z (c_ref09_Level (A := fun _ => True) (a0 := a0) (a1 := a1) (Sl.all d3) (Sl.all d6) (Sl.all d8) (Sl.all ea) eb) ?_
 rintro e6 ak ⟨aY, bd, bR, dP, rfl, ec, eG, eH, eI, eJ, eK, eL, eM, eN, eO, eP⟩
 obtain ⟨aZ, eQ, aa, I⟩ := adoptE eF (fun k => if ob aY = some k then 14 else if ob bd = some k then 15 else if ob bR = some k then 16 else if ob dP = some k then 17 else 1) ec
 have ed : OwnSl 14 Rep.u 33 aZ ak aY c.X.Pos.Counts := RowF.adopt 14 Flat.u eG aa (fun k hk => if_pos hk)
 have ee : OwnSl 15 Rep.u 33 aZ ak bd c.X.Neg.Counts := RowF.adopt 15 Flat.u eH aa (fun k hk => (if_neg (fun (e : ob aY = some k) => eK k e hk)).trans (if_pos hk))
 have ef : OwnSl 16 Rep.u 33 aZ ak bR c.Y.Pos.Counts := RowF.adopt 16 Flat.u eI aa (fun k hk => (if_neg (fun (e : ob aY = some k) => eL k e hk)).trans ((if_neg (fun (e : ob bd = some k) => eM k e hk)).trans (if_pos hk)))
 have eg : OwnSl 17 Rep.u 33 aZ ak dP c.Y.Neg.Counts := RowF.adopt 17 Flat.u eJ aa (fun k hk => (if_neg (fun (e : ob aY = some k) => eN k e hk)).trans ((if_neg (fun (e : ob bd = some k) => eO k e hk)).trans ((if_neg (fun (e : ob bR = some k) => eP k e hk)).trans (if_pos hk))))
 refine WL.alloc (O := aZ) 18 [vi 0, vu 0, vi 0, sn, vi 0, sn, vi 0, vu 0, vi 0, sn, vi 0, sn, vi 0] ty126 z z ?_
 intro ae bf e7 q eh
 have bS := ed.st q z z z
 have ei := h
 obtain ⟨bg, bh, bi, rfl⟩ := bS.shape
 have h := ei
 have bT := ee.st q z z z
 have b4 := h
 obtain ⟨bj, al, am, rfl⟩ := bT.shape
 have h := b4
 have bk := ef.st q z z z
 have b5 := h
 obtain ⟨an, ao, ap, rfl⟩ := bk.shape
 have h := b5
 have bl := eg.st q z z z
 have b6 := h
 obtain ⟨aq, ar, au, rfl⟩ := bl.shape
 have h := b6
 refine WL.store (v := ag [vi c.X.Scale, vu c.X.Zero, vi c.X.Pos.Offset, (vl bg bh bi), vi c.X.Neg.Offset, (vl bj al am), vi c.Y.Scale, vu c.Y.Zero, vi c.Y.Pos.Offset, (vl an ao ap), vi c.Y.Neg.Offset, (vl aq ar au), vi c.E]) (cells' := [vi c.X.Scale, vu c.X.Zero, vi c.X.Pos.Offset, (vl bg bh bi), vi c.X.Neg.Offset, (vl bj al am), vi c.Y.Scale, vu c.Y.Zero, vi c.Y.Pos.Offset, (vl an ao ap), vi c.Y.Neg.Offset, (vl aq ar au), vi c.E]) ty126 z z eh z (le_ z) z z ?_
 intro bm j av
 refine nl (th (sq (sq (rg (wY (yf fo126_2 z) z (wY (yl ty25 z z (av.cell 12 _ z)) z (wY (Y.neq_i z z) z (nl (th ?_)))))))))
 rcases cnd h with ⟨ax, h⟩ | ⟨ax, h⟩
 ·refine WC.condT' z ax (sq (rg (wY (yb (vals := []) (cells := hzr) (fe_ z) (by kernel_rfl)) z ?_)))
  have b9 := ((aj.st I z).st q z).st j z
  refine WL.store (v := ag hzr) (cells' := hzr) ty38 z z b9 z (le_ z) z z ?_
  intro ca bU cb
  refine wY (ya z) z (nl (th (rt (At.thenR ?_))))
  obtain ⟨rfl, rfl⟩ := tup2 h
  have cc : Stp [13, 18] (Lg.O0 A) w bf ca := (tr_ (su_ H z) (tr_ (su_ F z) (tr_ (su_ t z) (tr_ (su_ I z) (tr_ (su_ q z) (tr_ (su_ j z) (su_ bU z)))))))
  exact At.res (.inl z) z (.cell z (cb.runAg 0 hzr ty38 z z z) (.tmp z .nil)) ⟨sn, sn, z, (se_ cc z z), RowF.nil, RowF.nil, (fun _ e => absurd e not_nil)⟩
 ·refine WC.condF' z ax (sk (th (sq (sq (rg (wY (yf fo126_0 z) z (wY (yf fo38_0 z) z (wY (yl ty3 z z (av.cell 0 _ z)) z (wY (ya z) z ?_)))))))))
  refine nl (th (WC.block ?_))
  obtain ⟨bW, h, ay⟩ := flow1 h
  obtain ⟨bX, h⟩ := loop_some h
  refine WC.joinB 0 (σ := Own) (fun x w' => bW = .go () ∧ Stp [21, 24, 27] bf bm x w') (fun x => [(6, pt ab 0)]) ?_ ?_
  ·refine WC.loop (σ := (Int × Own)) (fun x k w' => loopN k (ref16_Together_lp1 a2 c) x.1 = some bW ∧ Stp [21, 24, 27] bf bm x.2 w') (fun x => [(2, vi a2), (6, pt ab 0), (8, pt ae 0), (9, vi x.1)]) (c.X.Scale, bf) bX (.cons z (.cons z (.cons z (.cons z .nil)))) ⟨h, (sr_ _ _ _)⟩ ?_
   rintro ⟨L, bY⟩ bX eR ⟨h, l⟩
   obtain ⟨ej, e8, rfl, h, ac⟩ := rnd1 h
   unfold ref16_Together_lp1 at h
   try dsimp only at h l
   refine (show WC _ _ _ _ [(2, vi a2), (6, pt ab 0), (8, pt ae 0), (9, vi L)] _ from ?_)
   refine sq (sq (rg (wY (ym z) z (wY (Y.geq_i z z) z (nl (th ?_))))))
   rcases cnd h with ⟨az, h⟩ | ⟨az, h⟩
   ·refine WC.condT' z az (sk (th (sq (WC.block (sq (rg (wY (yf fo126_0 z) z ?_)))))))
    have aA := av.st l z
    refine wY (yL ty38 z z (aA.cells 0 [vi c.X.Scale, vu c.X.Zero, vi c.X.Pos.Offset, (vl bg bh bi), vi c.X.Neg.Offset, (vl bj al am)] z) z) z (wY (yf fo126_0 z) z (wY (yf fo38_0 z) z (wY (yl ty3 z z (aA.cell 0 _ z)) z (wY (ym z) z (wY (Y.sub_i z z) z ?_)))))
    have ce := (bS.st j z z z).st l z z z
    have cg := (bT.st j z z z).st l z z z
    obtain ⟨⟨M, e9⟩, ch, h⟩ := bnd h
    refine WL.call (vals := [ag [vi c.X.Scale, vu c.X.Zero, vi c.X.Pos.Offset, (vl bg bh bi), vi c.X.Neg.Offset, (vl bj al am)], vi (w64 (c.X.Scale - L))]) kok105 z z (c_ref08_Down (A := fun _ => True) (a0 := c.X) (ce.src.sl) (cg.src.sl) ch) ?_
    rintro eS bn ⟨a6, bZ, rfl, ci, ek, em, en⟩
    obtain ⟨a7, eA, af, C⟩ := adoptE bY (fun k => if ob a6 = some k then 19 else if ob bZ = some k then 20 else 1) ci
    have cj : OwnSl 19 Rep.u 33 a7 bn a6 M.Pos.Counts := RowF.adopt 19 Flat.u ek af (fun k hk => if_pos hk)
    have ck : OwnSl 20 Rep.u 33 a7 bn bZ M.Neg.Counts := RowF.adopt 20 Flat.u em af (fun k hk => (if_neg (fun (e : ob a6 = some k) => en k e hk)).trans (if_pos hk))
    refine wY (ym z) z (wY (yx z z) z (wY (yx z z) z (WL.alloc (O := a7) 21 hzr ty38 z z ?_)))
    intro fa eo eT m cl
    have bo := cj.st m z z z
    have cm := h
    obtain ⟨aC, aD, aE, rfl⟩ := bo.shape
    have h := cm
    have bp := ck.st m z z z
    have cn := h
    obtain ⟨aF, aG, aH, rfl⟩ := bp.shape
    have h := cn
    refine WL.store (v := ag (hl M (vl aC aD aE) (vl aF aG aH))) (cells' := (hl M (vl aC aD aE) (vl aF aG aH))) ty38 z z cl z (le_ z) z z ?_
    intro eU n co
    refine wY (ya z) z (nl (th (sq (rg (wY (yf fo126_1 z) z ?_)))))
    have bq := ((aA.st C z).st m z).st n z
    refine wY (yL ty38 z z (bq.cells 6 [vi c.Y.Scale, vu c.Y.Zero, vi c.Y.Pos.Offset, (vl an ao ap), vi c.Y.Neg.Offset, (vl aq ar au)] z) z) z (wY (yf fo126_0 z) z (wY (yf fo38_0 z) z (wY (yl ty3 z z (bq.cell 0 _ z)) z (wY (ym z) z (wY (Y.sub_i z z) z ?_)))))
    have cw := ((((bk.st j z z z).st l z z z).st C z z z).st m z z z).st n z z z
    have cC := ((((bl.st j z z z).st l z z z).st C z z z).st m z z z).st n z z z
    obtain ⟨⟨Q, fc⟩, cD, h⟩ := bnd h
    refine WL.call (vals := [ag [vi c.Y.Scale, vu c.Y.Zero, vi c.Y.Pos.Offset, (vl an ao ap), vi c.Y.Neg.Offset, (vl aq ar au)], vi (w64 (c.X.Scale - L))]) kok105 z z (c_ref08_Down (A := fun _ => True) (a0 := c.Y) (cw.src.sl) (cC.src.sl) cD) ?_
    rintro eV br ⟨a8, b0, rfl, cE, ep, er, es⟩
    obtain ⟨a9, eB, ah, D⟩ := adoptE eo (fun k => if ob a8 = some k then 22 else if ob b0 = some k then 23 else 1) cE
    have cF : OwnSl 22 Rep.u 33 a9 br a8 Q.Pos.Counts := RowF.adopt 22 Flat.u ep ah (fun k hk => if_pos hk)
    have cG : OwnSl 23 Rep.u 33 a9 br b0 Q.Neg.Counts := RowF.adopt 23 Flat.u er ah (fun k hk => (if_neg (fun (e : ob a8 = some k) => es k e hk)).trans (if_pos hk))
    refine wY (ym z) z (wY (yx z z) z (wY (yx z z) z (WL.alloc (O := a9) 24 hzr ty38 z z ?_)))
    intro fd et eW o cH
    have bs := cF.st o z z z
    have cI := h
    obtain ⟨aI, aJ, aK, rfl⟩ := bs.shape
    have h := cI
    have bt := cG.st o z z z
    have cJ := h
    obtain ⟨aL, aM, aN, rfl⟩ := bt.shape
    have h := cJ
    refine WL.store (v := ag (hl Q (vl aI aJ aK) (vl aL aM aN))) (cells' := (hl Q (vl aI aJ aK) (vl aL aM aN))) ty38 z z cH z (le_ z) z z ?_
    intro eX p cK
    refine wY (ya z) z (nl (th (sq (rg ?_))))
    have cN := ((co.st D z).st o z).st p z
    refine wY (yL ty38 z z (cN.cells 0 (hl M (vl aC aD aE) (vl aF aG aH)) z) z) z (wY (yL ty38 z z (cK.cells 0 (hl Q (vl aI aJ aK) (vl aL aM aN)) z) z) z ?_)
    have cR := (((bo.st n z z z).st D z z z).st o z z z).st p z z z
    have cV := (((bp.st n z z z).st D z z z).st o z z z).st p z z z
    have cW := bs.st p z z z
    have cX := bt.st p z z z
    obtain ⟨⟨d, J⟩, cY, h⟩ := bnd h
    refine WL.call (vals := [ag (hl M (vl aC aD aE) (vl aF aG aH)), ag (hl Q (vl aI aJ aK) (vl aL aM aN))]) kok106 z z (c_ref09_Merge (A := fun _ => True) (a0 := M) (a1 := Q) (cR.src.sl) (cV.src.sl) (cW.src.sl) (cX.src.sl) cY) ?_
    rintro eY bu ⟨ba, b1, rfl, cZ, eu, ew, ex⟩
    obtain ⟨bb, eC, ai, K⟩ := adoptE et (fun k => if ob ba = some k then 25 else if ob b1 = some k then 26 else 1) cZ
    have c0 : OwnSl 25 Rep.u 33 bb bu ba d.Pos.Counts := RowF.adopt 25 Flat.u eu ai (fun k hk => if_pos hk)
    have c1 : OwnSl 26 Rep.u 33 bb bu b1 d.Neg.Counts := RowF.adopt 26 Flat.u ew ai (fun k hk => (if_neg (fun (e : ob ba = some k) => ex k e hk)).trans (if_pos hk))
    refine wY (ym z) z (wY (yx z z) z (wY (yx z z) z (WL.alloc (O := bb) 27 hzr ty38 z z ?_)))
    intro aO bc eZ G c2
    have aP := c0.st G z z z
    have c3 := h
    obtain ⟨S, T, U, rfl⟩ := aP.shape
    have h := c3
    have aQ := c1.st G z z z
    have c4 := h
    obtain ⟨V, W, Z, rfl⟩ := aQ.shape
    have h := c4
    refine WL.store (v := ag (hl d (vl S T U) (vl V W Z))) (cells' := (hl d (vl S T U) (vl V W Z))) ty38 z z c2 z (le_ z) z z ?_
    intro bw r aR
    refine wY (ya z) z (nl (th (sq (sq (rg (wY (ym z) z (wY (Y.eql_i z z) z (nl (th ?_)))))))))
    rcases cnd h with ⟨aS, h⟩ | ⟨aS, h⟩
    ·refine WC.condT' z aS (sq (rg (wY (yb (vals := []) (cells := hzr) (fe_ z) (by kernel_rfl)) z ?_)))
     have dh := ((((((((((((aj.st I z).st q z).st j z).st l z).st C z).st m z).st n z).st D z).st o z).st p z).st K z).st G z).st r z
     refine WL.store (v := ag hzr) (cells' := hzr) ty38 z z dh z (le_ z) z z ?_
     intro di b2 dj
     refine wY (ya z) z (nl (th (rt (At.thenR (At.inBlockR (At.thenR (At.loopR ?_)))))))
     have h := outr1 h ac ay
     refine At.joinBR (At.inBlockR (At.thenR ?_))
     obtain ⟨rfl, rfl⟩ := tup2 h
     have dk : Stp [13, 18, 21, 24, 27] (Lg.O0 A) w bc di := (tr_ (su_ H z) (tr_ (su_ F z) (tr_ (su_ t z) (tr_ (su_ I z) (tr_ (su_ q z) (tr_ (su_ j z) (tr_ (su_ l z) (tr_ (su_ C z) (tr_ (su_ m z) (tr_ (su_ n z) (tr_ (su_ D z) (tr_ (su_ o z) (tr_ (su_ p z) (tr_ (su_ K z) (tr_ (su_ G z) (tr_ (su_ r z) (su_ b2 z)))))))))))))))))
     exact At.res (.inl z) z (.cell z (dj.runAg 0 hzr ty38 z z z) (.tmp z .nil)) ⟨sn, sn, z, (se_ dk z z), RowF.nil, RowF.nil, (fun _ e => absurd e not_nil)⟩
    ·refine WC.condF' z aS (sk (th (sq (rg (wY (ym z) z (wY (Y.eql_i z z) z (wY (ym z) z ?_)))))))
     refine WL.cut 7 (σ := Unit) (fun _ w' => bw = w') (fun _ => [(2, vi a2), (6, pt ab 0), (8, pt ae 0), (9, vi L), (14, pt aO 0), (70, vB ((decide (J = 0)) && (decide ((d.Pos.Counts.length : Int) ≤ a2))))]) ?_ ?_
     ·refine WL.part 63 z (fun aT => ?_) (fun aT => ?_)
      ·refine ug z z (wY (yf fo38_2 z) z (ug z z (wY (yf fo36_1 z) z (ug z z (wY (yl ty34 z z (aR.cell 3 _ z)) z (ug z z ?_))))))
       have dl := aP.st r z z z
       refine wY (Y.len ty34 z dl.src.sl) z (ug z z (wY (ym z) z (ug z z (wY (Y.leq_i z z) z (wY (Y.pick (b := true) z z) z (WL.ren (v' := vB ((decide (J = 0)) && (decide ((d.Pos.Counts.length : Int) ≤ a2)))) 70 z (congrArg vB (andT aT)) ?_))))))
       exact nl (At.join () z (.cons z (.cons z (.cons z (.cons z (.cons z (.cons z .nil)))))))
      ·refine WL.gS z z z z (WL.gS z z z z (WL.gS z z z z (WL.gS z z z z (WL.gS z z z z (WL.gS z z z z (wY (Y.pick (b := false) z z) z (WL.ren (v' := vB ((decide (J = 0)) && (decide ((d.Pos.Counts.length : Int) ≤ a2)))) 70 z (congrArg vB (andF aT)) ?_)))))))
       exact nl (At.join () z (.cons z (.cons z (.cons z (.cons z (.cons z (.cons z .nil)))))))
     ·rintro _ _ rfl
      refine (show WL _ _ _ _ _ [(2, vi a2), (6, pt ab 0), (8, pt ae 0), (9, vi L), (14, pt aO 0), (70, vB ((decide (J = 0)) && (decide ((d.Pos.Counts.length : Int) ≤ a2))))] _ from ?_)
      refine wY (ym z) z ?_
      refine WL.cut 7 (σ := Unit) (fun _ w' => bw = w') (fun _ => [(2, vi a2), (6, pt ab 0), (8, pt ae 0), (9, vi L), (14, pt aO 0), (78, vB (((decide (J = 0)) && (decide ((d.Pos.Counts.length : Int) ≤ a2))) && (decide ((d.Neg.Counts.length : Int) ≤ a2))))]) ?_ ?_
      ·refine WL.part 71 z (fun aU => ?_) (fun aU => ?_)
       ·refine ug z z (wY (yf fo38_3 z) z (ug z z (wY (yf fo36_1 z) z (ug z z (wY (yl ty34 z z (aR.cell 5 _ z)) z (ug z z ?_))))))
        have dm := aQ.st r z z z
        refine wY (Y.len ty34 z dm.src.sl) z (ug z z (wY (ym z) z (ug z z (wY (Y.leq_i z z) z (wY (Y.pick (b := true) z z) z (WL.ren (v' := vB (((decide (J = 0)) && (decide ((d.Pos.Counts.length : Int) ≤ a2))) && (decide ((d.Neg.Counts.length : Int) ≤ a2)))) 78 z (congrArg vB (andT aU)) ?_))))))
        exact nl (At.join () z (.cons z (.cons z (.cons z (.cons z (.cons z (.cons z .nil)))))))
       ·refine WL.gS z z z z (WL.gS z z z z (WL.gS z z z z (WL.gS z z z z (WL.gS z z z z (WL.gS z z z z (wY (Y.pick (b := false) z z) z (WL.ren (v' := vB (((decide (J = 0)) && (decide ((d.Pos.Counts.length : Int) ≤ a2))) && (decide ((d.Neg.Counts.length : Int) ≤ a2)))) 78 z (congrArg vB (andF aU)) ?_)))))))
        exact nl (At.join () z (.cons z (.cons z (.cons z (.cons z (.cons z (.cons z .nil)))))))
      ·rintro _ _ rfl
       refine (show WL _ _ _ _ _ [(2, vi a2), (6, pt ab 0), (8, pt ae 0), (9, vi L), (14, pt aO 0), (78, vB (((decide (J = 0)) && (decide ((d.Pos.Counts.length : Int) ≤ a2))) && (decide ((d.Neg.Counts.length : Int) ≤ a2))))] _ from ?_)
       refine nl (th ?_)
       rcases cnd h with ⟨aW, h⟩ | ⟨aW, h⟩
       ·refine WC.condT' z aW (sq (rg (wY (yL ty38 z z (aR.cells 0 (hl d (vl S T U) (vl V W Z)) z) z) z ?_)))
        have dC := ((((((((((((aj.st I z).st q z).st j z).st l z).st C z).st m z).st n z).st D z).st o z).st p z).st K z).st G z).st r z
        refine WL.store (v := ag (hl d (vl S T U) (vl V W Z))) (cells' := (hl d (vl S T U) (vl V W Z))) ty38 z z dC z (le_ z) z z ?_
        intro dD ad dE
        refine wY (ya z) z (nl (th (rt (At.inBlockR (At.thenR (At.loopR ?_))))))
        have h := outr1 h ac ay
        refine At.joinBR (At.inBlockR (At.thenR ?_))
        obtain ⟨rfl, rfl⟩ := tup2 h
        have aX : Stp [13, 18, 21, 24, 27] (Lg.O0 A) w bc dD := (tr_ (su_ H z) (tr_ (su_ F z) (tr_ (su_ t z) (tr_ (su_ I z) (tr_ (su_ q z) (tr_ (su_ j z) (tr_ (su_ l z) (tr_ (su_ C z) (tr_ (su_ m z) (tr_ (su_ n z) (tr_ (su_ D z) (tr_ (su_ o z) (tr_ (su_ p z) (tr_ (su_ K z) (tr_ (su_ G z) (tr_ (su_ r z) (su_ ad z)))))))))))))))))
        have bx := (aP.st r z z z).st ad z z z
        have bz := (aQ.st r z z z).st ad z z z
        exact At.res (.inl z) z (.cell z (dE.runAg 0 (hl d (vl S T U) (vl V W Z)) ty38 z z z) (.tmp z .nil)) ⟨(vl S T U), (vl V W Z), z, (se_ aX z z), (OwnSl.outF bx aX low0 z), (OwnSl.outF bz aX low0 z), (ne_own bx bz z)⟩
       ·refine WC.condF' z aW (sk (At.inBlock (th (rg (wY (ym z) z (wY (Y.sub_i z z) z ?_))))))
        obtain ⟨ey, dH, h⟩ := lt1 h
        refine WL.yE (ya z) (congrArg vi dH.symm) z (nl ?_)
        exact At.round (ey, bc) ej (Nat.lt_succ_self _) ⟨next1 h ac, (tr_ (su_ l z) (tr_ (su_ C z) (tr_ (su_ m z) (tr_ (su_ n z) (tr_ (su_ D z) (tr_ (su_ o z) (tr_ (su_ p z) (tr_ (su_ K z) (tr_ (su_ G z) (su_ r z))))))))))⟩ (.cons z (.cons z (.cons z (.cons z .nil))))
   ·refine WC.condF' z az (WC.exit (At.thenX (At.loopX ?_)))
    exact At.hitB (σ := Own) bY ⟨brk1 h ac, (su_ l z)⟩ (.cons z .nil)
  ·rintro ez e0 ⟨rfl, a3⟩
   replace h := flowK_go ay
   refine (show At _ _ _ [(6, pt ab 0)] _ from ?_)
   refine At.inBlockHit (th (sq (rg (wY (yb (vals := []) (cells := hzr) (fe_ z) (by kernel_rfl)) z ?_))))
   have dL := (((aj.st I z).st q z).st j z).st a3 z
   refine WL.store (v := ag hzr) (cells' := hzr) ty38 z z dL z (le_ z) z z ?_
   intro dM b3 dN
   refine wY (ya z) z (nl (th (rt ?_)))
   obtain ⟨rfl, rfl⟩ := tup2 h
   have dO : Stp [13, 18, 21, 24, 27] (Lg.O0 A) w ez dM := (tr_ (su_ H z) (tr_ (su_ F z) (tr_ (su_ t z) (tr_ (su_ I z) (tr_ (su_ q z) (tr_ (su_ j z) (tr_ (su_ a3 z) (su_ b3 z))))))))
   exact At.res (.inl z) z (.cell z (dN.runAg 0 hzr ty38 z z z) (.tmp z .nil)) ⟨sn, sn, z, (se_ dO z z), RowF.nil, RowF.nil, (fun _ e => absurd e not_nil)⟩
theorem c_ref36_together {A : Nat → Prop} {v0_1 : Value} {v0_13 : Value} {v0_15 : Value} {a0 : api_Point} {v1_1 : Value} {v1_13 : Value} {v1_15 : Value} {a1 : api_Point} {w : World} (hs0_1 : Sl rep_api_Pair w A v0_1 a0.Attrs) (hs0_13 : Sl Rep.u w A v0_13 a0.Hist.Pos.Counts) (hs0_15 : Sl Rep.u w A v0_15 a0.Hist.Neg.Counts) (hs1_1 : Sl rep_api_Pair w A v1_1 a1.Attrs) (hs1_13 : Sl Rep.u w A v1_13 a1.Hist.Pos.Counts) (hs1_15 : Sl Rep.u w A v1_15 a1.Hist.Neg.Counts) {r0 : ref36_Got} (h : ref36_together a0 a1 = some r0) : Rets Tryz.prog 26 [ag (cp a0 v0_1 v0_13 v0_15), ag (cp a1 v1_1 v1_13 v1_15)] w (fun v w' => ∃ (bj : Value) (a9 : Value) (ba : Value), v = ag [vs r0.P.Name, bj, vi r0.P.Kind, vi r0.P.Temp, vB r0.P.Mono, vi r0.P.Start, vi r0.P.Time, vi r0.P.Int_, vu r0.P.Re, vu r0.P.Im, vi r0.P.Hist.Scale, vu r0.P.Hist.Zero, vi r0.P.Hist.Pos.Offset, a9, vi r0.P.Hist.Neg.Offset, ba, vi r0.P.Flags, vi r0.E] ∧ Ext w w' ∧ Sl rep_api_Pair w' (fun k => A k ∨ w.heap.size ≤ k) bj r0.P.Attrs ∧ Sl Rep.u w' (fun k => A k ∨ w.heap.size ≤ k) a9 r0.P.Hist.Pos.Counts ∧ Sl Rep.u w' (fun k => A k ∨ w.heap.size ≤ k) ba r0.P.Hist.Neg.Counts) := by
 unfold ref36_together at h
 refine Rets.enter Tryz.func26 z z ?_
 have hN : Sl rep_api_Pair w (imm (Lg.O0 A)) v0_1 a0.Attrs := (Sl.start hs0_1)
 have bk : Sl Rep.u w (imm (Lg.O0 A)) v0_13 a0.Hist.Pos.Counts := (Sl.start hs0_13)
 have bl : Sl Rep.u w (imm (Lg.O0 A)) v0_15 a0.Hist.Neg.Counts := (Sl.start hs0_15)
 have hO : Sl rep_api_Pair w (imm (Lg.O0 A)) v1_1 a1.Attrs := (Sl.start hs1_1)
 have hP : Sl Rep.u w (imm (Lg.O0 A)) v1_13 a1.Hist.Pos.Counts := (Sl.start hs1_13)
 have hQ : Sl Rep.u w (imm (Lg.O0 A)) v1_15 a1.Hist.Neg.Counts := (Sl.start hs1_15)
 refine (show WC _ _ _ _ [(0, ag (cp a0 v0_1 v0_13 v0_15)), (1, ag (cp a1 v1_1 v1_13 v1_15))] _ from ?_)
 refine sq (rg ?_)
 have hR := h
 obtain ⟨iH, iI, iJ, rfl⟩ := hN.shape
 have h := hR
 have hS := h
 obtain ⟨bm, bn, bo, rfl⟩ := bk.shape
 have h := hS
 have hT := h
 obtain ⟨bp, bq, br, rfl⟩ := bl.shape
 have h := hT
 refine WL.box (O := (Lg.O0 A)) 11 (cp a0 (vl iH iI iJ) (vl bm bn bo) (vl bp bq br)) z z z ?_
 intro hL iK i9 L bs
 have av := hO.i L z z
 have hU := h
 obtain ⟨n, o, p, rfl⟩ := av.shape
 have h := hU
 have ax := hP.i L z z
 have hV := h
 obtain ⟨t, C, D, rfl⟩ := ax.shape
 have h := hV
 have ay := hQ.i L z z
 have hW := h
 obtain ⟨F, G, H, rfl⟩ := ay.shape
 have h := hW
 refine WL.box (O := iK) 12 (cp a1 (vl n o p) (vl t C D) (vl F G H)) z z z ?_
 intro hM iL ja r hX
 refine WL.alloc (O := iL) 13 [vs [], sn, vi 0, vi 0, vB false, vi 0, vi 0, vi 0, vu 0, vu 0, vi 0, vu 0, vi 0, sn, vi 0, sn, vi 0, vi 0] ty45 z z ?_
 intro bb iM jb q ak
 refine nl (th (sq (rg ?_)))
 have a4 := hX.st q z
 refine wY (yL ty40 z z (a4.cells 0 (cp a1 (vl n o p) (vl t C D) (vl F G H)) z) z) z (WL.alloc (O := iM) 14 [vs [], sn, vi 0, vi 0, vB false, vi 0, vi 0, vi 0, vu 0, vu 0, vi 0, vu 0, vi 0, sn, vi 0, sn, vi 0] ty40 z z ?_)
 intro a3 bt jc j hY
 refine WL.store (v := ag (cp a1 (vl n o p) (vl t C D) (vl F G H))) (cells' := (cp a1 (vl n o p) (vl t C D) (vl F G H))) ty40 z z hY z (le_ z) z z ?_
 intro hZ l bu
 refine nl (th (sq ?_))
 obtain ⟨iN, h, h0⟩ := bnd h
 refine WC.join (σ := (Int × Own)) (fun x w' => x.1 = iN ∧ Stp [14] bt hZ x.2 w' ∧ Blk 14 x.2 w' a3 40 [vs a1.Name, (vl n o p), vi a1.Kind, vi a1.Temp, vB a1.Mono, vi x.1, vi a1.Time, vi a1.Int_, vu a1.Re, vu a1.Im, vi a1.Hist.Scale, vu a1.Hist.Zero, vi a1.Hist.Pos.Offset, (vl t C D), vi a1.Hist.Neg.Offset, (vl F G H), vi a1.Flags]) (fun x => [(2, pt hL 0), (3, pt hM 0), (4, pt bb 0), (5, pt a3 0)]) ?_ ?_
 ·refine sq (rg (wY (yf fo40_2 z) z ?_))
  have h2 := (a4.st j z).st l z
  refine wY (yl ty3 z z (h2.cell 2 _ z)) z (wY (Y.neq_i z z) z (nl (th ?_)))
  rcases cnd h with ⟨a5, h⟩ | ⟨a5, h⟩
  ·refine WC.condT' z a5 (rg (wY (yf fo40_5 z) z ?_))
   have h6 := (((bs.st r z).st q z).st j z).st l z
   refine wY (yl ty3 z z (h6.cell 5 _ z)) z (wY (yf fo40_5 z) z (WL.store (v := vi a0.Start) (cells' := [vs a1.Name, (vl n o p), vi a1.Kind, vi a1.Temp, vB a1.Mono, vi a0.Start, vi a1.Time, vi a1.Int_, vu a1.Re, vu a1.Im, vi a1.Hist.Scale, vu a1.Hist.Zero, vi a1.Hist.Pos.Offset, (vl t C D), vi a1.Hist.Neg.Offset, (vl F G H), vi a1.Flags]) ty3 z z bu z (le_ z) z z ?_))
   intro jd bG h7
   refine nl ?_
   exact At.join (σ := (Int × Own)) (a0.Start, bt) ⟨some1 h, (su_ bG z), h7⟩ (.cons z (.cons z (.cons z (.cons z .nil))))
  ·refine WC.condF' z a5 (sk ?_)
   exact At.join (σ := (Int × Own)) (a1.Start, bt) ⟨some1 h, (sr_ _ _ _), bu⟩ (.cons z (.cons z (.cons z (.cons z .nil))))
 ·rintro ⟨K, iO⟩ je ⟨rfl, m, bw⟩
  replace h := h0
  try dsimp only at h m bw
  refine (show At _ _ _ [(2, pt hL 0), (3, pt hM 0), (4, pt bb 0), (5, pt a3 0)] _ from ?_)
  refine th (sq (rg (wY (yf fo40_11 z) z ?_)))
  have aO := ((((bs.st r z).st q z).st j z).st l z).st m z
  refine wY (yl ty3 z z (aO.cell 16 _ z)) z (wY (yf fo40_11 z) z ?_)
  have bx := ((a4.st j z).st l z).st m z
  refine wY (yl ty3 z z (bx.cell 16 _ z)) z ?_
  obtain ⟨J, ig, h⟩ := bnd h
  refine WL.call (vals := [vi a0.Flags, vi a1.Flags]) kok58 z z (c_ref36_flags ig) ?_
  rintro jf jg ⟨rfl, ih⟩
  obtain ⟨aP, iP, iv, c⟩ := adoptE iO (fun k => 1) ih
  refine wY (yf fo40_11 z) z ?_
  have bH := bw.st c z
  refine WL.store (v := vi J) (cells' := [vs a1.Name, (vl n o p), vi a1.Kind, vi a1.Temp, vB a1.Mono, vi K, vi a1.Time, vi a1.Int_, vu a1.Re, vu a1.Im, vi a1.Hist.Scale, vu a1.Hist.Zero, vi a1.Hist.Pos.Offset, (vl t C D), vi a1.Hist.Neg.Offset, (vl F G H), vi J]) ty3 z z bH z (le_ z) z z ?_
  intro iQ d au
  refine nl (th (sq (sq (rg (wY (yf fo40_3 z) z ?_)))))
  have af := (bx.st c z).st d z
  refine wY (yl ty3 z z (af.cell 3 _ z)) z (wY (Y.neq_i z z) z (nl (th ?_)))
  rcases cnd h with ⟨aR, h⟩ | ⟨aR, h⟩
  ·refine WC.condT' z aR (sq (rg (wY (yL ty40 z z (au.cells 0 [vs a1.Name, (vl n o p), vi a1.Kind, vi a1.Temp, vB a1.Mono, vi K, vi a1.Time, vi a1.Int_, vu a1.Re, vu a1.Im, vi a1.Hist.Scale, vu a1.Hist.Zero, vi a1.Hist.Pos.Offset, (vl t C D), vi a1.Hist.Neg.Offset, (vl F G H), vi J] z) z) z (wY (yb (vals := [(0, ag [vs a1.Name, (vl n o p), vi a1.Kind, vi a1.Temp, vB a1.Mono, vi K, vi a1.Time, vi a1.Int_, vu a1.Re, vu a1.Im, vi a1.Hist.Scale, vu a1.Hist.Zero, vi a1.Hist.Pos.Offset, (vl t C D), vi a1.Hist.Neg.Offset, (vl F G H), vi J])]) (cells := [vs a1.Name, (vl n o p), vi a1.Kind, vi a1.Temp, vB a1.Mono, vi K, vi a1.Time, vi a1.Int_, vu a1.Re, vu a1.Im, vi a1.Hist.Scale, vu a1.Hist.Zero, vi a1.Hist.Pos.Offset, (vl t C D), vi a1.Hist.Neg.Offset, (vl F G H), vi J, vi 0]) (fe_ z) (by kernel_rfl)) z ?_))))
   have bO := ((((ak.st j z).st l z).st m z).st c z).st d z
   refine WL.store (v := ag [vs a1.Name, (vl n o p), vi a1.Kind, vi a1.Temp, vB a1.Mono, vi K, vi a1.Time, vi a1.Int_, vu a1.Re, vu a1.Im, vi a1.Hist.Scale, vu a1.Hist.Zero, vi a1.Hist.Pos.Offset, (vl t C D), vi a1.Hist.Neg.Offset, (vl F G H), vi J, vi 0]) (cells' := [vs a1.Name, (vl n o p), vi a1.Kind, vi a1.Temp, vB a1.Mono, vi K, vi a1.Time, vi a1.Int_, vu a1.Re, vu a1.Im, vi a1.Hist.Scale, vu a1.Hist.Zero, vi a1.Hist.Pos.Offset, (vl t C D), vi a1.Hist.Neg.Offset, (vl F G H), vi J, vi 0]) ty45 z z bO z (le_ z) z z ?_
   intro bP az bQ
   refine nl (th (rt (At.thenR ?_)))
   obtain rfl := some1 h
   have aI : Stp [13, 14] (Lg.O0 A) w aP bP := (tr_ (su_ L z) (tr_ (su_ r z) (tr_ (su_ q z) (tr_ (su_ j z) (tr_ (su_ l z) (tr_ (su_ m z) (tr_ (su_ c z) (tr_ (su_ d z) (su_ az z)))))))))
   have bZ := (((((((av.i r z z).i q z z).i j z z).i l z z).i m z z).i c z z).i d z z).i az z z
   have b7 := (((((((ax.i r z z).i q z z).i j z z).i l z z).i m z z).i c z z).i d z z).i az z z
   have cf := (((((((ay.i r z z).i q z z).i j z z).i l z z).i m z z).i c z z).i d z z).i az z z
   exact At.res (.inl z) z (.cell z (bQ.runAg 0 [vs a1.Name, (vl n o p), vi a1.Kind, vi a1.Temp, vB a1.Mono, vi K, vi a1.Time, vi a1.Int_, vu a1.Re, vu a1.Im, vi a1.Hist.Scale, vu a1.Hist.Zero, vi a1.Hist.Pos.Offset, (vl t C D), vi a1.Hist.Neg.Offset, (vl F G H), vi J, vi 0] ty45 z z z) .nil) ⟨(vl n o p), (vl t C D), (vl F G H), z, (se_ aI z z), (Sl.outI bZ aI low0 O0_A), (Sl.outI b7 aI low0 O0_A), (Sl.outI cf aI low0 O0_A)⟩
  ·refine WC.condF' z aR (sk (th (sq (sq (rg (wY (yf fo40_2 z) z (wY (yl ty3 z z (af.cell 2 _ z)) z (nl (th ?_)))))))))
   refine WC.block (sq (rg (wY (Y.eql_i z z) z ?_)))
   obtain ⟨jh, cg, h⟩ := lt1 h
   refine WL.yE (ya z) (congrArg vB cg.symm) z (nl (th ?_))
   rcases cnd h with ⟨aS, h⟩ | ⟨aS, h⟩
   ·refine WC.condT' z aS (sq (sq (rg (wY (yf fo40_7 z) z ?_))))
    have bc := (aO.st c z).st d z
    refine wY (yl ty3 z z (bc.cell 7 _ z)) z (wY (yf fo40_7 z) z (wY (yl ty3 z z (af.cell 7 _ z)) z ?_))
    obtain ⟨ji, ci, h⟩ := bnd h
    refine WL.call (vals := [vi a0.Int_, vi a1.Int_, vB false]) kok59 z z (c_ref15_Wide ci) ?_
    rintro iR iS ⟨rfl, cj⟩
    obtain ⟨bz, iw, ix, M⟩ := adoptE aP (fun k => 1) cj
    refine nl (th ?_)
    rcases cnd h with ⟨aT, h⟩ | ⟨aT, h⟩
    ·refine WC.condT' z aT (sq (rg (wY (yb (vals := [(1, vi 4)]) (cells := [vs [], sn, vi 0, vi 0, vB false, vi 0, vi 0, vi 0, vu 0, vu 0, vi 0, vu 0, vi 0, sn, vi 0, sn, vi 0, vi 4]) (fe_ z) (by kernel_rfl)) z ?_)))
     have cq := (((((ak.st j z).st l z).st m z).st c z).st d z).st M z
     refine WL.store (v := Value.agg (List.toArray [vs [], sn, vi 0, vi 0, vB false, vi 0, vi 0, vi 0, vu 0, vu 0, vi 0, vu 0, vi 0, sn, vi 0, sn, vi 0, vi 4])) (cells' := [vs [], sn, vi 0, vi 0, vB false, vi 0, vi 0, vi 0, vu 0, vu 0, vi 0, vu 0, vi 0, sn, vi 0, sn, vi 0, vi 4]) ty45 z z cq z (le_ z) z z ?_
     intro cr bA cs
     refine nl (th (rt (At.thenR (At.inBlockR (At.thenR ?_)))))
     obtain rfl := some1 h
     have ct : Stp [13, 14] (Lg.O0 A) w bz cr := (tr_ (su_ L z) (tr_ (su_ r z) (tr_ (su_ q z) (tr_ (su_ j z) (tr_ (su_ l z) (tr_ (su_ m z) (tr_ (su_ c z) (tr_ (su_ d z) (tr_ (su_ M z) (su_ bA z))))))))))
     exact At.res (.inl z) z (.cell z (cs.runAg 0 [vs [], sn, vi 0, vi 0, vB false, vi 0, vi 0, vi 0, vu 0, vu 0, vi 0, vu 0, vi 0, sn, vi 0, sn, vi 0, vi 4] ty45 z z z) .nil) ⟨sn, sn, sn, z, (se_ ct z z), (Or.inl ⟨z, z⟩), (Or.inl ⟨z, z⟩), (Or.inl ⟨z, z⟩)⟩
    ·refine WC.condF' z aT (sk (th (rg (wY (yf fo40_7 z) z ?_))))
     have cu := bc.st M z
     refine wY (yl ty3 z z (cu.cell 7 _ z)) z (wY (yf fo40_7 z) z ?_)
     have cv := af.st M z
     refine wY (yl ty3 z z (cv.cell 7 _ z)) z (wY (Y.add_i z z) z (wY (yf fo40_7 z) z ?_))
     obtain ⟨an, cw, h⟩ := lt1 h
     refine WL.ren 40 z (congrArg vi cw.symm) ?_
     have cx := au.st M z
     refine WL.store (v := vi an) (cells' := [vs a1.Name, (vl n o p), vi a1.Kind, vi a1.Temp, vB a1.Mono, vi K, vi a1.Time, vi an, vu a1.Re, vu a1.Im, vi a1.Hist.Scale, vu a1.Hist.Zero, vi a1.Hist.Pos.Offset, (vl t C D), vi a1.Hist.Neg.Offset, (vl F G H), vi J]) ty3 z z cx z (le_ z) z z ?_
     intro iT ao cy
     refine nl (At.inBlock (th (sq (rg (wY (yL ty40 z z (cy.cells 0 [vs a1.Name, (vl n o p), vi a1.Kind, vi a1.Temp, vB a1.Mono, vi K, vi a1.Time, vi an, vu a1.Re, vu a1.Im, vi a1.Hist.Scale, vu a1.Hist.Zero, vi a1.Hist.Pos.Offset, (vl t C D), vi a1.Hist.Neg.Offset, (vl F G H), vi J] z) z) z (wY (yb (vals := [(0, ag [vs a1.Name, (vl n o p), vi a1.Kind, vi a1.Temp, vB a1.Mono, vi K, vi a1.Time, vi an, vu a1.Re, vu a1.Im, vi a1.Hist.Scale, vu a1.Hist.Zero, vi a1.Hist.Pos.Offset, (vl t C D), vi a1.Hist.Neg.Offset, (vl F G H), vi J])]) (cells := [vs a1.Name, (vl n o p), vi a1.Kind, vi a1.Temp, vB a1.Mono, vi K, vi a1.Time, vi an, vu a1.Re, vu a1.Im, vi a1.Hist.Scale, vu a1.Hist.Zero, vi a1.Hist.Pos.Offset, (vl t C D), vi a1.Hist.Neg.Offset, (vl F G H), vi J, vi 0]) (fe_ z) (by kernel_rfl)) z ?_))))))
     have cG := ((((((ak.st j z).st l z).st m z).st c z).st d z).st M z).st ao z
     refine WL.store (v := ag [vs a1.Name, (vl n o p), vi a1.Kind, vi a1.Temp, vB a1.Mono, vi K, vi a1.Time, vi an, vu a1.Re, vu a1.Im, vi a1.Hist.Scale, vu a1.Hist.Zero, vi a1.Hist.Pos.Offset, (vl t C D), vi a1.Hist.Neg.Offset, (vl F G H), vi J, vi 0]) (cells' := [vs a1.Name, (vl n o p), vi a1.Kind, vi a1.Temp, vB a1.Mono, vi K, vi a1.Time, vi an, vu a1.Re, vu a1.Im, vi a1.Hist.Scale, vu a1.Hist.Zero, vi a1.Hist.Pos.Offset, (vl t C D), vi a1.Hist.Neg.Offset, (vl F G H), vi J, vi 0]) ty45 z z cG z (le_ z) z z ?_
     intro cH aA cI
     refine nl (th (rt ?_))
     obtain rfl := some1 h
     have aJ : Stp [13, 14] (Lg.O0 A) w bz cH := (tr_ (su_ L z) (tr_ (su_ r z) (tr_ (su_ q z) (tr_ (su_ j z) (tr_ (su_ l z) (tr_ (su_ m z) (tr_ (su_ c z) (tr_ (su_ d z) (tr_ (su_ M z) (tr_ (su_ ao z) (su_ aA z)))))))))))
     have cS := (((((((((av.i r z z).i q z z).i j z z).i l z z).i m z z).i c z z).i d z z).i M z z).i ao z z).i aA z z
     have c2 := (((((((((ax.i r z z).i q z z).i j z z).i l z z).i m z z).i c z z).i d z z).i M z z).i ao z z).i aA z z
     have dc := (((((((((ay.i r z z).i q z z).i j z z).i l z z).i m z z).i c z z).i d z z).i M z z).i ao z z).i aA z z
     exact At.res (.inl z) z (.cell z (cI.runAg 0 [vs a1.Name, (vl n o p), vi a1.Kind, vi a1.Temp, vB a1.Mono, vi K, vi a1.Time, vi an, vu a1.Re, vu a1.Im, vi a1.Hist.Scale, vu a1.Hist.Zero, vi a1.Hist.Pos.Offset, (vl t C D), vi a1.Hist.Neg.Offset, (vl F G H), vi J, vi 0] ty45 z z z) .nil) ⟨(vl n o p), (vl t C D), (vl F G H), z, (se_ aJ z z), (Sl.outI cS aJ low0 O0_A), (Sl.outI c2 aJ low0 O0_A), (Sl.outI dc aJ low0 O0_A)⟩
   ·refine WC.condF' z aS (sq (rg (wY (Y.eql_i z z) z ?_)))
    obtain ⟨jj, dd, h⟩ := lt1 h
    refine WL.yE (ya z) (congrArg vB dd.symm) z (nl (th ?_))
    rcases cnd h with ⟨aU, h⟩ | ⟨aU, h⟩
    ·refine WC.condT' z aU (sq (rg (wY (yf fo40_8 z) z ?_)))
     have df := (aO.st c z).st d z
     refine wY (yl ty33 z z (df.cell 8 _ z)) z (wY (yf fo40_8 z) z (wY (yl ty33 z z (af.cell 8 _ z)) z ?_))
     obtain ⟨al, dg, h⟩ := bnd h
     refine WL.call (vals := [vu a0.Re, vu a1.Re]) kok60 z z (c_ref05_Add dg) ?_
     rintro iU iV ⟨rfl, dh⟩
     obtain ⟨a6, iy, iz, Q⟩ := adoptE aP (fun k => 1) dh
     refine wY (yf fo40_8 z) z ?_
     have di := au.st Q z
     refine WL.store (v := vu al) (cells' := [vs a1.Name, (vl n o p), vi a1.Kind, vi a1.Temp, vB a1.Mono, vi K, vi a1.Time, vi a1.Int_, vu al, vu a1.Im, vi a1.Hist.Scale, vu a1.Hist.Zero, vi a1.Hist.Pos.Offset, (vl t C D), vi a1.Hist.Neg.Offset, (vl F G H), vi J]) ty33 z z di z (le_ z) z z ?_
     intro dj T bd
     refine nl (th (sq (rg (wY (yf fo40_4 z) z ?_))))
     have dl := (af.st Q z).st T z
     refine wY (yl ty4 z z (dl.cell 4 _ z)) z (wY (ym z) z ?_)
     obtain ⟨ii, h, dm⟩ := bnd h
     refine WL.cut 5 (σ := (Bool × Own)) (fun x w' => x.1 = ii ∧ Stp [] a6 dj x.2 w') (fun x => [(4, pt bb 0), (5, pt a3 0), (57, vB x.1)]) ?_ ?_
     ·rcases cnd h with ⟨aW, h⟩ | ⟨aW, h⟩
      ·refine WL.ren 52 z (congrArg vB aW) (ug z z (wY (yf fo40_8 z) z (ug z z (wY (yl ty33 z z (bd.cell 8 _ z)) z (ug z z ?_)))))
       obtain ⟨ij, dn, h⟩ := bnd h
       refine WL.call (vals := [vu al]) kok54 z z (c_ref05_Finite dn) ?_
       rintro iW iX ⟨rfl, dp⟩
       obtain ⟨ik, iA, iB, bB⟩ := adoptE a6 (fun k => 1) dp
       refine ug z z (wY (Y.not z) z (wY (Y.pick (b := true) z z) z ?_))
       exact nl (At.join (σ := (Bool × Own)) ((!ij), ik) ⟨some1 h, (su_ bB z)⟩ (.cons z (.cons z (.cons z .nil))))
      ·refine WL.ren 52 z (congrArg vB aW) (WL.gS z z z z (WL.gS z z z z (WL.gS z z z z (WL.gS z z z z (wY (Y.pick (b := false) z z) z ?_)))))
       exact nl (At.join (σ := (Bool × Own)) (false, a6) ⟨some1 h, (sr_ _ _ _)⟩ (.cons z (.cons z (.cons z .nil))))
     ·rintro ⟨il, bC⟩ iY ⟨rfl, S⟩
      replace h := dm
      try dsimp only at h S
      refine (show WL _ _ _ _ _ [(4, pt bb 0), (5, pt a3 0), (57, vB il)] _ from ?_)
      refine nl (th ?_)
      rcases cnd h with ⟨aX, h⟩ | ⟨aX, h⟩
      ·refine WC.condT' z aX (sq (rg (wY (yb (vals := [(1, vi 11)]) (cells := [vs [], sn, vi 0, vi 0, vB false, vi 0, vi 0, vi 0, vu 0, vu 0, vi 0, vu 0, vi 0, sn, vi 0, sn, vi 0, vi 11]) (fe_ z) (by kernel_rfl)) z ?_)))
       have dz := (((((((ak.st j z).st l z).st m z).st c z).st d z).st Q z).st T z).st S z
       refine WL.store (v := Value.agg (List.toArray [vs [], sn, vi 0, vi 0, vB false, vi 0, vi 0, vi 0, vu 0, vu 0, vi 0, vu 0, vi 0, sn, vi 0, sn, vi 0, vi 11])) (cells' := [vs [], sn, vi 0, vi 0, vB false, vi 0, vi 0, vi 0, vu 0, vu 0, vi 0, vu 0, vi 0, sn, vi 0, sn, vi 0, vi 11]) ty45 z z dz z (le_ z) z z ?_
       intro dA bD dB
       refine nl (th (rt (At.inBlockR (At.thenR ?_))))
       obtain rfl := some1 h
       have dC : Stp [13, 14] (Lg.O0 A) w bC dA := (tr_ (su_ L z) (tr_ (su_ r z) (tr_ (su_ q z) (tr_ (su_ j z) (tr_ (su_ l z) (tr_ (su_ m z) (tr_ (su_ c z) (tr_ (su_ d z) (tr_ (su_ Q z) (tr_ (su_ T z) (tr_ (su_ S z) (su_ bD z))))))))))))
       exact At.res (.inl z) z (.cell z (dB.runAg 0 [vs [], sn, vi 0, vi 0, vB false, vi 0, vi 0, vi 0, vu 0, vu 0, vi 0, vu 0, vi 0, sn, vi 0, sn, vi 0, vi 11] ty45 z z z) .nil) ⟨sn, sn, sn, z, (se_ dC z z), (Or.inl ⟨z, z⟩), (Or.inl ⟨z, z⟩), (Or.inl ⟨z, z⟩)⟩
      ·refine WC.condF' z aX (sk (At.inBlock (th (sq (rg ?_)))))
       have dD := bd.st S z
       refine wY (yL ty40 z z (dD.cells 0 [vs a1.Name, (vl n o p), vi a1.Kind, vi a1.Temp, vB a1.Mono, vi K, vi a1.Time, vi a1.Int_, vu al, vu a1.Im, vi a1.Hist.Scale, vu a1.Hist.Zero, vi a1.Hist.Pos.Offset, (vl t C D), vi a1.Hist.Neg.Offset, (vl F G H), vi J] z) z) z (wY (yb (vals := [(0, ag [vs a1.Name, (vl n o p), vi a1.Kind, vi a1.Temp, vB a1.Mono, vi K, vi a1.Time, vi a1.Int_, vu al, vu a1.Im, vi a1.Hist.Scale, vu a1.Hist.Zero, vi a1.Hist.Pos.Offset, (vl t C D), vi a1.Hist.Neg.Offset, (vl F G H), vi J])]) (cells := [vs a1.Name, (vl n o p), vi a1.Kind, vi a1.Temp, vB a1.Mono, vi K, vi a1.Time, vi a1.Int_, vu al, vu a1.Im, vi a1.Hist.Scale, vu a1.Hist.Zero, vi a1.Hist.Pos.Offset, (vl t C D), vi a1.Hist.Neg.Offset, (vl F G H), vi J, vi 0]) (fe_ z) (by kernel_rfl)) z ?_)
       have dL := (((((((ak.st j z).st l z).st m z).st c z).st d z).st Q z).st T z).st S z
       refine WL.store (v := ag [vs a1.Name, (vl n o p), vi a1.Kind, vi a1.Temp, vB a1.Mono, vi K, vi a1.Time, vi a1.Int_, vu al, vu a1.Im, vi a1.Hist.Scale, vu a1.Hist.Zero, vi a1.Hist.Pos.Offset, (vl t C D), vi a1.Hist.Neg.Offset, (vl F G H), vi J, vi 0]) (cells' := [vs a1.Name, (vl n o p), vi a1.Kind, vi a1.Temp, vB a1.Mono, vi K, vi a1.Time, vi a1.Int_, vu al, vu a1.Im, vi a1.Hist.Scale, vu a1.Hist.Zero, vi a1.Hist.Pos.Offset, (vl t C D), vi a1.Hist.Neg.Offset, (vl F G H), vi J, vi 0]) ty45 z z dL z (le_ z) z z ?_
       intro dM aC dN
       refine nl (th (rt ?_))
       obtain rfl := some1 h
       have aK : Stp [13, 14] (Lg.O0 A) w bC dM := (tr_ (su_ L z) (tr_ (su_ r z) (tr_ (su_ q z) (tr_ (su_ j z) (tr_ (su_ l z) (tr_ (su_ m z) (tr_ (su_ c z) (tr_ (su_ d z) (tr_ (su_ Q z) (tr_ (su_ T z) (tr_ (su_ S z) (su_ aC z))))))))))))
       have dY := ((((((((((av.i r z z).i q z z).i j z z).i l z z).i m z z).i c z z).i d z z).i Q z z).i T z z).i S z z).i aC z z
       have d9 := ((((((((((ax.i r z z).i q z z).i j z z).i l z z).i m z z).i c z z).i d z z).i Q z z).i T z z).i S z z).i aC z z
       have ek := ((((((((((ay.i r z z).i q z z).i j z z).i l z z).i m z z).i c z z).i d z z).i Q z z).i T z z).i S z z).i aC z z
       exact At.res (.inl z) z (.cell z (dN.runAg 0 [vs a1.Name, (vl n o p), vi a1.Kind, vi a1.Temp, vB a1.Mono, vi K, vi a1.Time, vi a1.Int_, vu al, vu a1.Im, vi a1.Hist.Scale, vu a1.Hist.Zero, vi a1.Hist.Pos.Offset, (vl t C D), vi a1.Hist.Neg.Offset, (vl F G H), vi J, vi 0] ty45 z z z) .nil) ⟨(vl n o p), (vl t C D), (vl F G H), z, (se_ aK z z), (Sl.outI dY aK low0 O0_A), (Sl.outI d9 aK low0 O0_A), (Sl.outI ek aK low0 O0_A)⟩
    ·refine WC.condF' z aU (sq (rg (wY (Y.eql_i z z) z ?_)))
     obtain ⟨jk, em, h⟩ := lt1 h
     refine WL.yE (ya z) (congrArg vB em.symm) z (nl (th ?_))
     rcases cnd h with ⟨aY, h⟩ | ⟨aY, h⟩
     ·refine WC.condT' z aY (sq (rg (wY (yf fo40_10 z) z ?_)))
      have eo := (aO.st c z).st d z
      refine wY (yL ty38 z z (eo.cells 10 (hl a0.Hist (vl bm bn bo) (vl bp bq br)) z) z) z (wY (yf fo40_10 z) z (wY (yL ty38 z z (af.cells 10 (hl a1.Hist (vl t C D) (vl F G H)) z) z) z ?_))
      have ey := (((((((bk.i L z z).i r z z).i q z z).i j z z).i l z z).i m z z).i c z z).i d z z
      have eG := (((((((bl.i L z z).i r z z).i q z z).i j z z).i l z z).i m z z).i c z z).i d z z
      have eN := ((((((ax.i r z z).i q z z).i j z z).i l z z).i m z z).i c z z).i d z z
      have eU := ((((((ay.i r z z).i q z z).i j z z).i l z z).i m z z).i c z z).i d z z
      obtain ⟨⟨I, jl⟩, eV, h⟩ := bnd h
      refine WL.call (vals := [ag (hl a0.Hist (vl bm bn bo) (vl bp bq br)), ag (hl a1.Hist (vl t C D) (vl F G H)), vi 160]) kok61 z z (c_ref16_Together (A := fun _ => True) (a0 := a0.Hist) (a1 := a1.Hist) (Sl.all ey) (Sl.all eG) (Sl.all eN) (Sl.all eU) eV) ?_
      rintro iZ bf ⟨a7, bE, rfl, eW, im, io, ip⟩
      obtain ⟨a8, iC, aQ, ai⟩ := adoptE aP (fun k => if ob a7 = some k then 15 else if ob bE = some k then 16 else 1) eW
      have eX : OwnSl 15 Rep.u 33 a8 bf a7 I.Pos.Counts := RowF.adopt 15 Flat.u im aQ (fun k hk => if_pos hk)
      have eY : OwnSl 16 Rep.u 33 a8 bf bE I.Neg.Counts := RowF.adopt 16 Flat.u io aQ (fun k hk => (if_neg (fun (e : ob a7 = some k) => ip k e hk)).trans (if_pos hk))
      refine wY (ym z) z (wY (yx z z) z (wY (yx z z) z (WL.alloc (O := a8) 17 hzr ty38 z z ?_)))
      intro jm iq i0 U eZ
      have bg := eX.st U z z z
      have e0 := h
      obtain ⟨Z, aa, ab, rfl⟩ := bg.shape
      have h := e0
      have bh := eY.st U z z z
      have e1 := h
      obtain ⟨ac, ad, ae, rfl⟩ := bh.shape
      have h := e1
      refine WL.store (v := ag (hl I (vl Z aa ab) (vl ac ad ae))) (cells' := (hl I (vl Z aa ab) (vl ac ad ae))) ty38 z z eZ z (le_ z) z z ?_
      intro i1 V e2
      refine wY (ya z) z (nl (th (sq (sq (rg (wY (ym z) z (wY (Y.not z) z (nl (th ?_)))))))))
      rcases cnd h with ⟨aZ, h⟩ | ⟨aZ, h⟩
      ·refine WC.condT' z aZ (sq (rg (wY (yb (vals := [(1, vi 4)]) (cells := [vs [], sn, vi 0, vi 0, vB false, vi 0, vi 0, vi 0, vu 0, vu 0, vi 0, vu 0, vi 0, sn, vi 0, sn, vi 0, vi 4]) (fe_ z) (by kernel_rfl)) z ?_)))
       have fd := (((((((ak.st j z).st l z).st m z).st c z).st d z).st ai z).st U z).st V z
       refine WL.store (v := Value.agg (List.toArray [vs [], sn, vi 0, vi 0, vB false, vi 0, vi 0, vi 0, vu 0, vu 0, vi 0, vu 0, vi 0, sn, vi 0, sn, vi 0, vi 4])) (cells' := [vs [], sn, vi 0, vi 0, vB false, vi 0, vi 0, vi 0, vu 0, vu 0, vi 0, vu 0, vi 0, sn, vi 0, sn, vi 0, vi 4]) ty45 z z fd z (le_ z) z z ?_
       intro fe bF ff
       refine nl (th (rt (At.thenR (At.inBlockR (At.thenR ?_)))))
       obtain rfl := some1 h
       have fg : Stp [13, 14, 17] (Lg.O0 A) w iq fe := (tr_ (su_ L z) (tr_ (su_ r z) (tr_ (su_ q z) (tr_ (su_ j z) (tr_ (su_ l z) (tr_ (su_ m z) (tr_ (su_ c z) (tr_ (su_ d z) (tr_ (su_ ai z) (tr_ (su_ U z) (tr_ (su_ V z) (su_ bF z))))))))))))
       exact At.res (.inl z) z (.cell z (ff.runAg 0 [vs [], sn, vi 0, vi 0, vB false, vi 0, vi 0, vi 0, vu 0, vu 0, vi 0, vu 0, vi 0, sn, vi 0, sn, vi 0, vi 4] ty45 z z z) .nil) ⟨sn, sn, sn, z, (se_ fg z z), (Or.inl ⟨z, z⟩), (Or.inl ⟨z, z⟩), (Or.inl ⟨z, z⟩)⟩
      ·refine WC.condF' z aZ (sk (th (rg (wY (yL ty38 z z (e2.cells 0 (hl I (vl Z aa ab) (vl ac ad ae)) z) z) z (wY (yf fo40_10 z) z ?_)))))
       have fj := ((au.st ai z).st U z).st V z
       refine WL.store (v := ag (hl I (vl Z aa ab) (vl ac ad ae))) (cells' := [vs a1.Name, (vl n o p), vi a1.Kind, vi a1.Temp, vB a1.Mono, vi K, vi a1.Time, vi a1.Int_, vu a1.Re, vu a1.Im, vi I.Scale, vu I.Zero, vi I.Pos.Offset, (vl Z aa ab), vi I.Neg.Offset, (vl ac ad ae), vi J]) ty38 z z fj z (le_ z) z z ?_
       intro i2 ap fk
       refine nl (At.inBlock (th (sq (rg (wY (yL ty40 z z (fk.cells 0 [vs a1.Name, (vl n o p), vi a1.Kind, vi a1.Temp, vB a1.Mono, vi K, vi a1.Time, vi a1.Int_, vu a1.Re, vu a1.Im, vi I.Scale, vu I.Zero, vi I.Pos.Offset, (vl Z aa ab), vi I.Neg.Offset, (vl ac ad ae), vi J] z) z) z (wY (yb (vals := [(0, ag [vs a1.Name, (vl n o p), vi a1.Kind, vi a1.Temp, vB a1.Mono, vi K, vi a1.Time, vi a1.Int_, vu a1.Re, vu a1.Im, vi I.Scale, vu I.Zero, vi I.Pos.Offset, (vl Z aa ab), vi I.Neg.Offset, (vl ac ad ae), vi J])]) (cells := [vs a1.Name, (vl n o p), vi a1.Kind, vi a1.Temp, vB a1.Mono, vi K, vi a1.Time, vi a1.Int_, vu a1.Re, vu a1.Im, vi I.Scale, vu I.Zero, vi I.Pos.Offset, (vl Z aa ab), vi I.Neg.Offset, (vl ac ad ae), vi J, vi 0]) (fe_ z) (by kernel_rfl)) z ?_))))))
       have fu := ((((((((ak.st j z).st l z).st m z).st c z).st d z).st ai z).st U z).st V z).st ap z
       refine WL.store (v := ag [vs a1.Name, (vl n o p), vi a1.Kind, vi a1.Temp, vB a1.Mono, vi K, vi a1.Time, vi a1.Int_, vu a1.Re, vu a1.Im, vi I.Scale, vu I.Zero, vi I.Pos.Offset, (vl Z aa ab), vi I.Neg.Offset, (vl ac ad ae), vi J, vi 0]) (cells' := [vs a1.Name, (vl n o p), vi a1.Kind, vi a1.Temp, vB a1.Mono, vi K, vi a1.Time, vi a1.Int_, vu a1.Re, vu a1.Im, vi I.Scale, vu I.Zero, vi I.Pos.Offset, (vl Z aa ab), vi I.Neg.Offset, (vl ac ad ae), vi J, vi 0]) ty45 z z fu z (le_ z) z z ?_
       intro fv aD fw
       refine nl (th (rt ?_))
       obtain rfl := some1 h
       have fz := ((bg.st V z z z).st ap z z z).st aD z z z
       obtain ⟨jn, aE, fA⟩ := OwnSl.giveF rfl Flat.u fz
       have fF := (((bh.st V z z z).st ap z z z).st aD z z z).st aE z z z
       obtain ⟨ir, aF, fG⟩ := OwnSl.giveF rfl Flat.u fF
       have aL : Stp [13, 14, 15, 16, 17] (Lg.O0 A) w ir fv := (tr_ (su_ L z) (tr_ (su_ r z) (tr_ (su_ q z) (tr_ (su_ j z) (tr_ (su_ l z) (tr_ (su_ m z) (tr_ (su_ c z) (tr_ (su_ d z) (tr_ (su_ ai z) (tr_ (su_ U z) (tr_ (su_ V z) (tr_ (su_ ap z) (tr_ (su_ aD z) (tr_ (su_ aE z) (su_ aF z)))))))))))))))
       have fY := (((((((((((((av.i r z z).i q z z).i j z z).i l z z).i m z z).i c z z).i d z z).i ai z z).i U z z).i V z z).i ap z z).i aD z z).i aE z z).i aF z z
       have f0 := fA.f aF z
       have f2 := (fw.st aE z).st aF z
       exact At.res (.inl z) z (.cell z (f2.runAg 0 [vs a1.Name, (vl n o p), vi a1.Kind, vi a1.Temp, vB a1.Mono, vi K, vi a1.Time, vi a1.Int_, vu a1.Re, vu a1.Im, vi I.Scale, vu I.Zero, vi I.Pos.Offset, (vl Z aa ab), vi I.Neg.Offset, (vl ac ad ae), vi J, vi 0] ty45 z z z) .nil) ⟨(vl n o p), (vl Z aa ab), (vl ac ad ae), z, (se_ aL z z), (Sl.outI fY aL low0 O0_A), (Sl.outI (Sl.mono f0 frs_imm) aL low0 O0_A), (Sl.outI (Sl.mono fG frs_imm) aL low0 O0_A)⟩
     ·refine WC.condF' z aY (sq (rg (wY (Y.eql_i z z) z ?_)))
      obtain ⟨jo, f3, h⟩ := lt1 h
      refine WL.yE (ya z) (congrArg vB f3.symm) z (nl (th ?_))
      rcases cnd h with ⟨a2, h⟩ | ⟨a2, h⟩
      ·refine WC.condT' z a2 (sq (rg (wY (yf fo40_8 z) z ?_)))
       have bi := (aO.st c z).st d z
       refine wY (yl ty33 z z (bi.cell 8 _ z)) z (wY (yf fo40_8 z) z (wY (yl ty33 z z (af.cell 8 _ z)) z ?_))
       obtain ⟨am, f5, h⟩ := bnd h
       refine WL.call (vals := [vu a0.Re, vu a1.Re]) kok60 z z (c_ref05_Add f5) ?_
       rintro i3 i4 ⟨rfl, f6⟩
       obtain ⟨it, iD, iE, W⟩ := adoptE aP (fun k => 1) f6
       refine wY (yf fo40_8 z) z ?_
       have f7 := au.st W z
       refine WL.store (v := vu am) (cells' := [vs a1.Name, (vl n o p), vi a1.Kind, vi a1.Temp, vB a1.Mono, vi K, vi a1.Time, vi a1.Int_, vu am, vu a1.Im, vi a1.Hist.Scale, vu a1.Hist.Zero, vi a1.Hist.Pos.Offset, (vl t C D), vi a1.Hist.Neg.Offset, (vl F G H), vi J]) ty33 z z f7 z (le_ z) z z ?_
       intro i5 ah f8
       refine nl (th (rg (wY (yf fo40_9 z) z ?_)))
       have ga := (bi.st W z).st ah z
       refine wY (yl ty33 z z (ga.cell 9 _ z)) z (wY (yf fo40_9 z) z ?_)
       have gc := (af.st W z).st ah z
       refine wY (yl ty33 z z (gc.cell 9 _ z)) z ?_
       obtain ⟨aq, gd, h⟩ := bnd h
       refine WL.call (vals := [vu a0.Im, vu a1.Im]) kok60 z z (c_ref05_Add gd) ?_
       rintro i6 i7 ⟨rfl, ge⟩
       obtain ⟨iu, iF, iG, aj⟩ := adoptE it (fun k => 1) ge
       refine wY (yf fo40_9 z) z ?_
       have gf := f8.st aj z
       refine WL.store (v := vu aq) (cells' := [vs a1.Name, (vl n o p), vi a1.Kind, vi a1.Temp, vB a1.Mono, vi K, vi a1.Time, vi a1.Int_, vu am, vu aq, vi a1.Hist.Scale, vu a1.Hist.Zero, vi a1.Hist.Pos.Offset, (vl t C D), vi a1.Hist.Neg.Offset, (vl F G H), vi J]) ty33 z z gf z (le_ z) z z ?_
       intro i8 ar gg
       refine nl (At.inBlock (th (sq (rg (wY (yL ty40 z z (gg.cells 0 [vs a1.Name, (vl n o p), vi a1.Kind, vi a1.Temp, vB a1.Mono, vi K, vi a1.Time, vi a1.Int_, vu am, vu aq, vi a1.Hist.Scale, vu a1.Hist.Zero, vi a1.Hist.Pos.Offset, (vl t C D), vi a1.Hist.Neg.Offset, (vl F G H), vi J] z) z) z (wY (yb (vals := [(0, ag [vs a1.Name, (vl n o p), vi a1.Kind, vi a1.Temp, vB a1.Mono, vi K, vi a1.Time, vi a1.Int_, vu am, vu aq, vi a1.Hist.Scale, vu a1.Hist.Zero, vi a1.Hist.Pos.Offset, (vl t C D), vi a1.Hist.Neg.Offset, (vl F G H), vi J])]) (cells := [vs a1.Name, (vl n o p), vi a1.Kind, vi a1.Temp, vB a1.Mono, vi K, vi a1.Time, vi a1.Int_, vu am, vu aq, vi a1.Hist.Scale, vu a1.Hist.Zero, vi a1.Hist.Pos.Offset, (vl t C D), vi a1.Hist.Neg.Offset, (vl F G H), vi J, vi 0]) (fe_ z) (by kernel_rfl)) z ?_))))))
       have gq := ((((((((ak.st j z).st l z).st m z).st c z).st d z).st W z).st ah z).st aj z).st ar z
       refine WL.store (v := ag [vs a1.Name, (vl n o p), vi a1.Kind, vi a1.Temp, vB a1.Mono, vi K, vi a1.Time, vi a1.Int_, vu am, vu aq, vi a1.Hist.Scale, vu a1.Hist.Zero, vi a1.Hist.Pos.Offset, (vl t C D), vi a1.Hist.Neg.Offset, (vl F G H), vi J, vi 0]) (cells' := [vs a1.Name, (vl n o p), vi a1.Kind, vi a1.Temp, vB a1.Mono, vi K, vi a1.Time, vi a1.Int_, vu am, vu aq, vi a1.Hist.Scale, vu a1.Hist.Zero, vi a1.Hist.Pos.Offset, (vl t C D), vi a1.Hist.Neg.Offset, (vl F G H), vi J, vi 0]) ty45 z z gq z (le_ z) z z ?_
       intro gr aG gs
       refine nl (th (rt ?_))
       obtain rfl := some1 h
       have aM : Stp [13, 14] (Lg.O0 A) w iu gr := (tr_ (su_ L z) (tr_ (su_ r z) (tr_ (su_ q z) (tr_ (su_ j z) (tr_ (su_ l z) (tr_ (su_ m z) (tr_ (su_ c z) (tr_ (su_ d z) (tr_ (su_ W z) (tr_ (su_ ah z) (tr_ (su_ aj z) (tr_ (su_ ar z) (su_ aG z)))))))))))))
       have gK := (((((((((((av.i r z z).i q z z).i j z z).i l z z).i m z z).i c z z).i d z z).i W z z).i ah z z).i aj z z).i ar z z).i aG z z
       have gZ := (((((((((((ax.i r z z).i q z z).i j z z).i l z z).i m z z).i c z z).i d z z).i W z z).i ah z z).i aj z z).i ar z z).i aG z z
       have hc := (((((((((((ay.i r z z).i q z z).i j z z).i l z z).i m z z).i c z z).i d z z).i W z z).i ah z z).i aj z z).i ar z z).i aG z z
       exact At.res (.inl z) z (.cell z (gs.runAg 0 [vs a1.Name, (vl n o p), vi a1.Kind, vi a1.Temp, vB a1.Mono, vi K, vi a1.Time, vi a1.Int_, vu am, vu aq, vi a1.Hist.Scale, vu a1.Hist.Zero, vi a1.Hist.Pos.Offset, (vl t C D), vi a1.Hist.Neg.Offset, (vl F G H), vi J, vi 0] ty45 z z z) .nil) ⟨(vl n o p), (vl t C D), (vl F G H), z, (se_ aM z z), (Sl.outI gK aM low0 O0_A), (Sl.outI gZ aM low0 O0_A), (Sl.outI hc aM low0 O0_A)⟩
      ·refine WC.condF' z a2 (sk (At.inBlock (th (sq (rg (wY (yL ty40 z z (au.cells 0 [vs a1.Name, (vl n o p), vi a1.Kind, vi a1.Temp, vB a1.Mono, vi K, vi a1.Time, vi a1.Int_, vu a1.Re, vu a1.Im, vi a1.Hist.Scale, vu a1.Hist.Zero, vi a1.Hist.Pos.Offset, (vl t C D), vi a1.Hist.Neg.Offset, (vl F G H), vi J] z) z) z (wY (yb (vals := [(0, ag [vs a1.Name, (vl n o p), vi a1.Kind, vi a1.Temp, vB a1.Mono, vi K, vi a1.Time, vi a1.Int_, vu a1.Re, vu a1.Im, vi a1.Hist.Scale, vu a1.Hist.Zero, vi a1.Hist.Pos.Offset, (vl t C D), vi a1.Hist.Neg.Offset, (vl F G H), vi J])]) (cells := [vs a1.Name, (vl n o p), vi a1.Kind, vi a1.Temp, vB a1.Mono, vi K, vi a1.Time, vi a1.Int_, vu a1.Re, vu a1.Im, vi a1.Hist.Scale, vu a1.Hist.Zero, vi a1.Hist.Pos.Offset, (vl t C D), vi a1.Hist.Neg.Offset, (vl F G H), vi J, vi 0]) (fe_ z) (by kernel_rfl)) z ?_)))))))
       have hh := ((((ak.st j z).st l z).st m z).st c z).st d z
       refine WL.store (v := ag [vs a1.Name, (vl n o p), vi a1.Kind, vi a1.Temp, vB a1.Mono, vi K, vi a1.Time, vi a1.Int_, vu a1.Re, vu a1.Im, vi a1.Hist.Scale, vu a1.Hist.Zero, vi a1.Hist.Pos.Offset, (vl t C D), vi a1.Hist.Neg.Offset, (vl F G H), vi J, vi 0]) (cells' := [vs a1.Name, (vl n o p), vi a1.Kind, vi a1.Temp, vB a1.Mono, vi K, vi a1.Time, vi a1.Int_, vu a1.Re, vu a1.Im, vi a1.Hist.Scale, vu a1.Hist.Zero, vi a1.Hist.Pos.Offset, (vl t C D), vi a1.Hist.Neg.Offset, (vl F G H), vi J, vi 0]) ty45 z z hh z (le_ z) z z ?_
       intro hi aH hj
       refine nl (th (rt ?_))
       obtain rfl := some1 h
       have aN : Stp [13, 14] (Lg.O0 A) w aP hi := (tr_ (su_ L z) (tr_ (su_ r z) (tr_ (su_ q z) (tr_ (su_ j z) (tr_ (su_ l z) (tr_ (su_ m z) (tr_ (su_ c z) (tr_ (su_ d z) (su_ aH z)))))))))
       have ht := (((((((av.i r z z).i q z z).i j z z).i l z z).i m z z).i c z z).i d z z).i aH z z
       have hC := (((((((ax.i r z z).i q z z).i j z z).i l z z).i m z z).i c z z).i d z z).i aH z z
       have hK := (((((((ay.i r z z).i q z z).i j z z).i l z z).i m z z).i c z z).i d z z).i aH z z
       exact At.res (.inl z) z (.cell z (hj.runAg 0 [vs a1.Name, (vl n o p), vi a1.Kind, vi a1.Temp, vB a1.Mono, vi K, vi a1.Time, vi a1.Int_, vu a1.Re, vu a1.Im, vi a1.Hist.Scale, vu a1.Hist.Zero, vi a1.Hist.Pos.Offset, (vl t C D), vi a1.Hist.Neg.Offset, (vl F G H), vi J, vi 0] ty45 z z z) .nil) ⟨(vl n o p), (vl t C D), (vl F G H), z, (se_ aN z z), (Sl.outI ht aN low0 O0_A), (Sl.outI hC aN low0 O0_A), (Sl.outI hK aN low0 O0_A)⟩
theorem c_ref36_Merge {A : Nat → Prop} {v0_1 : Value} {v0_13 : Value} {v0_15 : Value} {a0 : api_Point} {v1_1 : Value} {v1_13 : Value} {v1_15 : Value} {a1 : api_Point} {w : World} (hs0_1 : Sl rep_api_Pair w A v0_1 a0.Attrs) (hs0_13 : Sl Rep.u w A v0_13 a0.Hist.Pos.Counts) (hs0_15 : Sl Rep.u w A v0_15 a0.Hist.Neg.Counts) (hs1_1 : Sl rep_api_Pair w A v1_1 a1.Attrs) (hs1_13 : Sl Rep.u w A v1_13 a1.Hist.Pos.Counts) (hs1_15 : Sl Rep.u w A v1_15 a1.Hist.Neg.Counts) {r0 : ref36_Got} (h : ref36_Merge a0 a1 = some r0) : Rets Tryz.prog 13 [ag (cp a0 v0_1 v0_13 v0_15), ag (cp a1 v1_1 v1_13 v1_15)] w (fun v w' => ∃ (aN : Value) (az : Value) (aA : Value), v = ag [vs r0.P.Name, aN, vi r0.P.Kind, vi r0.P.Temp, vB r0.P.Mono, vi r0.P.Start, vi r0.P.Time, vi r0.P.Int_, vu r0.P.Re, vu r0.P.Im, vi r0.P.Hist.Scale, vu r0.P.Hist.Zero, vi r0.P.Hist.Pos.Offset, az, vi r0.P.Hist.Neg.Offset, aA, vi r0.P.Flags, vi r0.E] ∧ Ext w w' ∧ Sl rep_api_Pair w' (fun k => A k ∨ w.heap.size ≤ k) aN r0.P.Attrs ∧ Sl Rep.u w' (fun k => A k ∨ w.heap.size ≤ k) az r0.P.Hist.Pos.Counts ∧ Sl Rep.u w' (fun k => A k ∨ w.heap.size ≤ k) aA r0.P.Hist.Neg.Counts) := by
 unfold ref36_Merge at h
 refine Rets.enter Tryz.func13 z z ?_
 have aO : Sl rep_api_Pair w (imm (Lg.O0 A)) v0_1 a0.Attrs := (Sl.start hs0_1)
 have aP : Sl Rep.u w (imm (Lg.O0 A)) v0_13 a0.Hist.Pos.Counts := (Sl.start hs0_13)
 have aQ : Sl Rep.u w (imm (Lg.O0 A)) v0_15 a0.Hist.Neg.Counts := (Sl.start hs0_15)
 have bR : Sl rep_api_Pair w (imm (Lg.O0 A)) v1_1 a1.Attrs := (Sl.start hs1_1)
 have bS : Sl Rep.u w (imm (Lg.O0 A)) v1_13 a1.Hist.Pos.Counts := (Sl.start hs1_13)
 have bT : Sl Rep.u w (imm (Lg.O0 A)) v1_15 a1.Hist.Neg.Counts := (Sl.start hs1_15)
 refine (show WC _ _ _ _ [(0, ag (cp a0 v0_1 v0_13 v0_15)), (1, ag (cp a1 v1_1 v1_13 v1_15))] _ from ?_)
 refine sq (rg ?_)
 have bU := h
 obtain ⟨D, F, G, rfl⟩ := aO.shape
 have h := bU
 have bW := h
 obtain ⟨H, I, J, rfl⟩ := aP.shape
 have h := bW
 have bX := h
 obtain ⟨K, L, M, rfl⟩ := aQ.shape
 have h := bX
 refine WL.box (O := (Lg.O0 A)) 11 (cp a0 (vl D F G) (vl H I J) (vl K L M)) z z z ?_
 intro cQ cA cK o bY
 have aR := bR.i o z z
 have bZ := h
 obtain ⟨Q, S, T, rfl⟩ := aR.shape
 have h := bZ
 have aS := bS.i o z z
 have b0 := h
 obtain ⟨U, V, W, rfl⟩ := aS.shape
 have h := b0
 have aT := bT.i o z z
 have b1 := h
 obtain ⟨Z, aa, ab, rfl⟩ := aT.shape
 have h := b1
 refine WL.box (O := cA) 12 (cp a1 (vl Q S T) (vl U V W) (vl Z aa ab)) z z z ?_
 intro cR cC cL n b2
 refine WL.alloc (O := cC) 13 [vs [], sn, vi 0, vi 0, vB false, vi 0, vi 0, vi 0, vu 0, vu 0, vi 0, vu 0, vi 0, sn, vi 0, sn, vi 0, vi 0] ty45 z z ?_
 intro cS cD cM m ad
 refine nl (th (sq (sq (rg ?_))))
 have aU := (bY.st n z).st m z
 refine wY (yL ty40 z z (aU.cells 0 (cp a0 (vl D F G) (vl H I J) (vl K L M)) z) z) z ?_
 have aW := ((aO.i o z z).i n z z).i m z z
 have aX := ((aP.i o z z).i n z z).i m z z
 have aY := ((aQ.i o z z).i n z z).i m z z
 obtain ⟨au, ca, h⟩ := bnd h
 refine WL.call (vals := [ag (cp a0 (vl D F G) (vl H I J) (vl K L M))]) kok24 z z (c_ref12_Check (A := fun _ => True) (a0 := a0) (Sl.all aW) (Sl.all aX) (Sl.all aY) ca) ?_
 rintro cN cO ⟨rfl, cb⟩
 obtain ⟨bQ, cE, cF, j⟩ := adoptE cD (fun k => 1) cb
 refine wY (ya z) z (nl (th (sq (rg (wY (ym z) z (wY (Y.neq_i z z) z (nl (th ?_))))))))
 rcases cnd h with ⟨ay, h⟩ | ⟨ay, h⟩
 ·refine WC.condT' z ay (sq (rg (wY (ym z) z (wY (yb (vals := [(1, vi au)]) (cells := [vs [], sn, vi 0, vi 0, vB false, vi 0, vi 0, vi 0, vu 0, vu 0, vi 0, vu 0, vi 0, sn, vi 0, sn, vi 0, vi au]) (fe_ z) (by kernel_rfl)) z ?_))))
  have cc := ad.st j z
  refine WL.store (v := Value.agg (List.toArray [vs [], sn, vi 0, vi 0, vB false, vi 0, vi 0, vi 0, vu 0, vu 0, vi 0, vu 0, vi 0, sn, vi 0, sn, vi 0, vi au])) (cells' := [vs [], sn, vi 0, vi 0, vB false, vi 0, vi 0, vi 0, vu 0, vu 0, vi 0, vu 0, vi 0, sn, vi 0, sn, vi 0, vi au]) ty45 z z cc z (le_ z) z z ?_
  intro cd a8 ce
  refine nl (th (rt (At.thenR ?_)))
  obtain rfl := some1 h
  have cf : Stp [13] (Lg.O0 A) w bQ cd := (tr_ (su_ o z) (tr_ (su_ n z) (tr_ (su_ m z) (tr_ (su_ j z) (su_ a8 z)))))
  exact At.res (.inl z) z (.cell z (ce.runAg 0 [vs [], sn, vi 0, vi 0, vB false, vi 0, vi 0, vi 0, vu 0, vu 0, vi 0, vu 0, vi 0, sn, vi 0, sn, vi 0, vi au] ty45 z z z) .nil) ⟨sn, sn, sn, z, (se_ cf z z), (Or.inl ⟨z, z⟩), (Or.inl ⟨z, z⟩), (Or.inl ⟨z, z⟩)⟩
 ·refine WC.condF' z ay (sk (th (sq (sq (rg ?_)))))
  have aZ := (b2.st m z).st j z
  refine wY (yL ty40 z z (aZ.cells 0 (cp a1 (vl Q S T) (vl U V W) (vl Z aa ab)) z) z) z ?_
  have a2 := ((aR.i n z z).i m z z).i j z z
  have a3 := ((aS.i n z z).i m z z).i j z z
  have a4 := ((aT.i n z z).i m z z).i j z z
  obtain ⟨av, cn, h⟩ := bnd h
  refine WL.call (vals := [ag (cp a1 (vl Q S T) (vl U V W) (vl Z aa ab))]) kok24 z z (c_ref12_Check (A := fun _ => True) (a0 := a1) (Sl.all a2) (Sl.all a3) (Sl.all a4) cn) ?_
  rintro cG cP ⟨rfl, co⟩
  obtain ⟨a5, cw, cx, d⟩ := adoptE bQ (fun k => 1) co
  refine wY (ya z) z (nl (th (sq (rg (wY (ym z) z (wY (Y.neq_i z z) z (nl (th ?_))))))))
  rcases cnd h with ⟨ae, h⟩ | ⟨ae, h⟩
  ·refine WC.condT' z ae (sq (rg (wY (ym z) z (wY (yb (vals := [(1, vi av)]) (cells := [vs [], sn, vi 0, vi 0, vB false, vi 0, vi 0, vi 0, vu 0, vu 0, vi 0, vu 0, vi 0, sn, vi 0, sn, vi 0, vi av]) (fe_ z) (by kernel_rfl)) z ?_))))
   have ba := (ad.st j z).st d z
   refine WL.store (v := Value.agg (List.toArray [vs [], sn, vi 0, vi 0, vB false, vi 0, vi 0, vi 0, vu 0, vu 0, vi 0, vu 0, vi 0, sn, vi 0, sn, vi 0, vi av])) (cells' := [vs [], sn, vi 0, vi 0, vB false, vi 0, vi 0, vi 0, vu 0, vu 0, vi 0, vu 0, vi 0, sn, vi 0, sn, vi 0, vi av]) ty45 z z ba z (le_ z) z z ?_
   intro bb a6 bc
   refine nl (th (rt (At.thenR ?_)))
   obtain rfl := some1 h
   have bd : Stp [13] (Lg.O0 A) w a5 bb := (tr_ (su_ o z) (tr_ (su_ n z) (tr_ (su_ m z) (tr_ (su_ j z) (tr_ (su_ d z) (su_ a6 z))))))
   exact At.res (.inl z) z (.cell z (bc.runAg 0 [vs [], sn, vi 0, vi 0, vB false, vi 0, vi 0, vi 0, vu 0, vu 0, vi 0, vu 0, vi 0, sn, vi 0, sn, vi 0, vi av] ty45 z z z) .nil) ⟨sn, sn, sn, z, (se_ bd z z), (Or.inl ⟨z, z⟩), (Or.inl ⟨z, z⟩), (Or.inl ⟨z, z⟩)⟩
  ·refine WC.condF' z ae (sk (th (sq (sq (rg ?_)))))
   have aC := (aU.st j z).st d z
   refine wY (yL ty40 z z (aC.cells 0 (cp a0 (vl D F G) (vl H I J) (vl K L M)) z) z) z ?_
   have aD := aZ.st d z
   refine wY (yL ty40 z z (aD.cells 0 (cp a1 (vl Q S T) (vl U V W) (vl Z aa ab)) z) z) z ?_
   have aE := (aW.i j z z).i d z z
   have aF := (aX.i j z z).i d z z
   have aG := (aY.i j z z).i d z z
   have aH := a2.i d z z
   have aI := a3.i d z z
   have aJ := a4.i d z z
   obtain ⟨ac, bj, h⟩ := bnd h
   refine WL.call (vals := [ag (cp a0 (vl D F G) (vl H I J) (vl K L M)), ag (cp a1 (vl Q S T) (vl U V W) (vl Z aa ab))]) kok25 z z (c_ref36_behind (A := fun _ => True) (a0 := a0) (a1 := a1) (Sl.all aE) (Sl.all aF) (Sl.all aG) (Sl.all aH) (Sl.all aI) (Sl.all aJ) bj) ?_
   rintro cH cI ⟨rfl, bk⟩
   obtain ⟨q, cy, cz, l⟩ := adoptE a5 (fun k => 1) bk
   refine wY (ya z) z (nl (th (sq (rg (wY (ym z) z (wY (Y.neq_i z z) z (nl (th ?_))))))))
   rcases cnd h with ⟨af, h⟩ | ⟨af, h⟩
   ·refine WC.condT' z af (sq (rg (wY (ym z) z (wY (yb (vals := [(1, vi ac)]) (cells := [vs [], sn, vi 0, vi 0, vB false, vi 0, vi 0, vi 0, vu 0, vu 0, vi 0, vu 0, vi 0, sn, vi 0, sn, vi 0, vi ac]) (fe_ z) (by kernel_rfl)) z ?_))))
    have bn := ((ad.st j z).st d z).st l z
    refine WL.store (v := Value.agg (List.toArray [vs [], sn, vi 0, vi 0, vB false, vi 0, vi 0, vi 0, vu 0, vu 0, vi 0, vu 0, vi 0, sn, vi 0, sn, vi 0, vi ac])) (cells' := [vs [], sn, vi 0, vi 0, vB false, vi 0, vi 0, vi 0, vu 0, vu 0, vi 0, vu 0, vi 0, sn, vi 0, sn, vi 0, vi ac]) ty45 z z bn z (le_ z) z z ?_
    intro bo a7 bp
    refine nl (th (rt (At.thenR ?_)))
    obtain rfl := some1 h
    have bq : Stp [13] (Lg.O0 A) w q bo := (tr_ (su_ o z) (tr_ (su_ n z) (tr_ (su_ m z) (tr_ (su_ j z) (tr_ (su_ d z) (tr_ (su_ l z) (su_ a7 z)))))))
    exact At.res (.inl z) z (.cell z (bp.runAg 0 [vs [], sn, vi 0, vi 0, vB false, vi 0, vi 0, vi 0, vu 0, vu 0, vi 0, vu 0, vi 0, sn, vi 0, sn, vi 0, vi ac] ty45 z z z) .nil) ⟨sn, sn, sn, z, (se_ bq z z), (Or.inl ⟨z, z⟩), (Or.inl ⟨z, z⟩), (Or.inl ⟨z, z⟩)⟩
   ·refine WC.condF' z af (sk (th (sq (rg ?_))))
    have br := aC.st l z
    refine wY (yL ty40 z z (br.cells 0 (cp a0 (vl D F G) (vl H I J) (vl K L M)) z) z) z ?_
    have bs := aD.st l z
    refine wY (yL ty40 z z (bs.cells 0 (cp a1 (vl Q S T) (vl U V W) (vl Z aa ab)) z) z) z ?_
    have bt := aE.i l z z
    have bu := aF.i l z z
    have bw := aG.i l z z
    have bx := aH.i l z z
    have bz := aI.i l z z
    have bA := aJ.i l z z
    obtain ⟨c, bB, h⟩ := bnd h
    refine WL.call (vals := [ag (cp a0 (vl D F G) (vl H I J) (vl K L M)), ag (cp a1 (vl Q S T) (vl U V W) (vl Z aa ab))]) kok26 z z (c_ref36_together (A := imm q) (a0 := a0) (a1 := a1) bt bu bw bx bz bA bB) ?_
    rintro cJ ah ⟨cq, cr, cs, rfl, bC, ct, cu, cv⟩
    obtain ⟨ai, r, t, ax⟩ := adoptE q (fun k => 1) bC
    have aK : Sl rep_api_Pair ah (imm ai) cq c.P.Attrs := Sl.adoptI (O := q) ct (fun _ hk => hk) (fun _ _ => Nat.le_refl _) r t
    have aL : Sl Rep.u ah (imm ai) cr c.P.Hist.Pos.Counts := Sl.adoptI (O := q) cu (fun _ hk => hk) (fun _ _ => Nat.le_refl _) r t
    have aM : Sl Rep.u ah (imm ai) cs c.P.Hist.Neg.Counts := Sl.adoptI (O := q) cv (fun _ hk => hk) (fun _ _ => Nat.le_refl _) r t
    have bD := h
    obtain ⟨aj, ak, al, rfl⟩ := aK.shape
    have h := bD
    have bE := h
    obtain ⟨am, an, ao, rfl⟩ := aL.shape
    have h := bE
    have bF := h
    obtain ⟨ap, aq, ar, rfl⟩ := aM.shape
    have h := bF
    have bJ := (((ad.st j z).st d z).st l z).st ax z
    refine WL.store (v := ag [vs c.P.Name, (vl aj ak al), vi c.P.Kind, vi c.P.Temp, vB c.P.Mono, vi c.P.Start, vi c.P.Time, vi c.P.Int_, vu c.P.Re, vu c.P.Im, vi c.P.Hist.Scale, vu c.P.Hist.Zero, vi c.P.Hist.Pos.Offset, (vl am an ao), vi c.P.Hist.Neg.Offset, (vl ap aq ar), vi c.P.Flags, vi c.E]) (cells' := [vs c.P.Name, (vl aj ak al), vi c.P.Kind, vi c.P.Temp, vB c.P.Mono, vi c.P.Start, vi c.P.Time, vi c.P.Int_, vu c.P.Re, vu c.P.Im, vi c.P.Hist.Scale, vu c.P.Hist.Zero, vi c.P.Hist.Pos.Offset, (vl am an ao), vi c.P.Hist.Neg.Offset, (vl ap aq ar), vi c.P.Flags, vi c.E]) ty45 z z bJ z (le_ z) z z ?_
    intro bK p bL
    refine nl (th (rt ?_))
    obtain rfl := some1 h
    have C : Stp [13] (Lg.O0 A) w ai bK := (tr_ (su_ o z) (tr_ (su_ n z) (tr_ (su_ m z) (tr_ (su_ j z) (tr_ (su_ d z) (tr_ (su_ l z) (tr_ (su_ ax z) (su_ p z))))))))
    have bM := aK.i p z z
    have bO := aL.i p z z
    have bP := aM.i p z z
    exact At.res (.inl z) z (.cell z (bL.runAg 0 [vs c.P.Name, (vl aj ak al), vi c.P.Kind, vi c.P.Temp, vB c.P.Mono, vi c.P.Start, vi c.P.Time, vi c.P.Int_, vu c.P.Re, vu c.P.Im, vi c.P.Hist.Scale, vu c.P.Hist.Zero, vi c.P.Hist.Pos.Offset, (vl am an ao), vi c.P.Hist.Neg.Offset, (vl ap aq ar), vi c.P.Flags, vi c.E] ty45 z z z) .nil) ⟨(vl aj ak al), (vl am an ao), (vl ap aq ar), z, (se_ C z z), (Sl.outI bM C low0 O0_A), (Sl.outI bO C low0 O0_A), (Sl.outI bP C low0 O0_A)⟩
theorem c_ref11_Same {A : Nat → Prop} {a0 : List api_Pair} {v0 : Value} {a1 : List api_Pair} {v1 : Value} {w : World} (hs0 : Sl rep_api_Pair w A v0 a0) (hs1 : Sl rep_api_Pair w A v1 a1) {r0 : Bool} (h : ref11_Same a0 a1 = some r0) : Rets Tryz.prog 29 [v0, v1] w (fun v w' => v = vB r0 ∧ Ext w w') := by
 unfold ref11_Same at h
 refine Rets.enter Tryz.func29 z z ?_
 have C : Sl rep_api_Pair w (imm (Lg.O0 A)) v0 a0 := (Sl.start hs0)
 have D : Sl rep_api_Pair w (imm (Lg.O0 A)) v1 a1 := (Sl.start hs1)
 refine (show WC _ _ _ _ [(0, v0), (1, v1)] _ from ?_)
 refine sq (rg (wY (ya z) z (nl (th (sq (sq (rg (wY (ym z) z (wY (Y.len ty32 z C) z ?_)))))))))
 refine wY (ym z) z (wY (Y.len ty32 z D) z (wY (Y.neq_i z z) z (nl (th ?_))))
 rcases cnd h with ⟨j, h⟩ | ⟨j, h⟩
 ·refine WC.condT' z j (sq (rg (wY (ya z) z (nl (th (rt (At.thenR ?_)))))))
  obtain rfl := some1 h
  have S : Stp [] (Lg.O0 A) w (Lg.O0 A) w := (sr_ _ _ _)
  exact At.res (.inl z) z (.tmp z .nil) ⟨z, (se_ S z z)⟩
 ·refine WC.condF' z j (sk (th (sq (sq (rg (wY (ya z) z (nl (th (WC.block ?_)))))))))
  obtain ⟨M, h, F⟩ := flow1 h
  obtain ⟨Q, h⟩ := loop_some h
  refine WC.joinB 0 (σ := Own) (fun x w' => M = .go () ∧ Stp [] (Lg.O0 A) w x w') (fun x => []) ?_ ?_
  ·refine WC.loop (σ := (Int × Own)) (fun x k w' => loopN k (ref11_Same_lp1 a0 a1) x.1 = some M ∧ Stp [] (Lg.O0 A) w x.2 w') (fun x => [(0, v0), (1, v1), (5, vi x.1)]) (0, (Lg.O0 A)) Q (.cons z (.cons z (.cons z .nil))) ⟨h, (sr_ _ _ _)⟩ ?_
   rintro ⟨ao, q⟩ Q az ⟨h, c⟩
   obtain ⟨ap, aD, rfl, h, l⟩ := rnd1 h
   unfold ref11_Same_lp1 at h
   try dsimp only at h c
   refine (show WC _ _ _ _ [(0, v0), (1, v1), (5, vi ao)] _ from ?_)
   refine sq (sq (rg (wY (ym z) z (wY (ym z) z ?_))))
   have G := C.i c z z
   refine wY (Y.len ty32 z G) z (wY (Y.lss_i z z) z (nl (th ?_)))
   rcases cnd h with ⟨m, h⟩ | ⟨m, h⟩
   ·refine WC.condT' z m (sk (th (sq (WC.block (sq (WC.draw 8 q fmix (by kernel_rfl) ?_))))))
    intro T d
    refine WS.y (ym z) z (WS.y (ym z) z ?_)
    obtain ⟨r, U, h⟩ := bnd h
    have V := G.i d z z
    obtain ⟨aE, au, av, aA, W, Z, aa, n, H, ab⟩ := Sl.at2 V U
    obtain ⟨_, _, rfl, rfl, rfl⟩ := H
    replace n : CellsAt _ _ _ [vs r.Key, vs r.Val] := n
    have I := CAt.imm n ab
    refine WS.y (Y.indexAddr ty32 ty67 z W z Z aa) z (WS.y (yL ty67 z z I.at_ z) z (WS.y (ym z) z (WS.y (ym z) z ?_)))
    obtain ⟨t, ac, h⟩ := bnd h
    have ae := (D.i c z z).i d z z
    obtain ⟨aF, ax, ay, aC, af, ah, ai, o, J, aj⟩ := Sl.at2 ae ac
    obtain ⟨_, _, rfl, rfl, rfl⟩ := J
    replace o : CellsAt _ _ _ [vs t.Key, vs t.Val] := o
    have K := CAt.imm o aj
    refine WS.y (Y.indexAddr ty32 ty67 z af z ah ai) z (WS.y (yL ty67 z z K.at_ z) z (WS.tail (wY (Y.neq_ag agok67 z z (EqF.cons (by decide) (fun w => run_part_plain w (by kernel_rfl) z) (fun w => run_part_plain w (by kernel_rfl) z) (EqV.s (a := r.Key) (b := t.Key) ty9.u) (EqF.cons (by decide) (fun w => run_part_plain w (by kernel_rfl) z) (fun w => run_part_plain w (by kernel_rfl) z) (EqV.s (a := r.Val) (b := t.Val) ty9.u) EqF.nil))) z (nl (th ?_)))))
    rcases cnd h with ⟨p, h⟩ | ⟨p, h⟩
    ·refine WC.condT' z p (sq (rg (wY (ya z) z (nl (th (rt (At.inBlockR (At.thenR (At.loopR ?_)))))))))
     have h := outr1 h l F
     refine At.joinBR (At.inBlockR (At.thenR ?_))
     obtain rfl := some1 h
     have ak : Stp [] (Lg.O0 A) w q T := (tr_ (su_ c z) (su_ d z))
     exact At.res (.inl z) z (.tmp z .nil) ⟨z, (se_ ak z z)⟩
    ·refine WC.condF' z p (sk (At.inBlock (th (rg (wY (ym z) z (wY (Y.add_i z z) z ?_))))))
     obtain ⟨aq, al, h⟩ := lt1 h
     refine WL.yE (ya z) (congrArg vi al.symm) z (nl ?_)
     exact At.round (aq, q) ap (Nat.lt_succ_self _) ⟨next1 h l, (tr_ (su_ c z) (su_ d z))⟩ (.cons z (.cons z (.cons z .nil)))
   ·refine WC.condF' z m (WC.exit (At.thenX (At.loopX ?_)))
    exact At.hitB (σ := Own) q ⟨brk1 h l, (su_ c z)⟩ .nil
  ·rintro ar am ⟨rfl, L⟩
   replace h := flowK_go F
   refine (show At _ _ _ [] _ from ?_)
   refine At.inBlockHit (th (sq (rg (wY (ya z) z (nl (th (rt ?_)))))))
   obtain rfl := some1 h
   have an : Stp [] (Lg.O0 A) w ar am := (su_ L z)
   exact At.res (.inl z) z (.tmp z .nil) ⟨z, (se_ an z z)⟩
theorem c_ref12_Same {A : Nat → Prop} {v0_1 : Value} {v0_13 : Value} {v0_15 : Value} {a0 : api_Point} {v1_1 : Value} {v1_13 : Value} {v1_15 : Value} {a1 : api_Point} {w : World} (hs0_1 : Sl rep_api_Pair w A v0_1 a0.Attrs) (hs0_13 : Sl Rep.u w A v0_13 a0.Hist.Pos.Counts) (hs0_15 : Sl Rep.u w A v0_15 a0.Hist.Neg.Counts) (hs1_1 : Sl rep_api_Pair w A v1_1 a1.Attrs) (hs1_13 : Sl Rep.u w A v1_13 a1.Hist.Pos.Counts) (hs1_15 : Sl Rep.u w A v1_15 a1.Hist.Neg.Counts) {r0 : Bool} (h : ref12_Same a0 a1 = some r0) : Rets Tryz.prog 14 [ag (cp a0 v0_1 v0_13 v0_15), ag (cp a1 v1_1 v1_13 v1_15)] w (fun v w' => v = vB r0 ∧ Ext w w') := by
 unfold ref12_Same at h
 refine Rets.enter Tryz.func14 z z ?_
 have ae : Sl rep_api_Pair w (imm (Lg.O0 A)) v0_1 a0.Attrs := (Sl.start hs0_1)
 have af : Sl Rep.u w (imm (Lg.O0 A)) v0_13 a0.Hist.Pos.Counts := (Sl.start hs0_13)
 have ah : Sl Rep.u w (imm (Lg.O0 A)) v0_15 a0.Hist.Neg.Counts := (Sl.start hs0_15)
 have bC : Sl rep_api_Pair w (imm (Lg.O0 A)) v1_1 a1.Attrs := (Sl.start hs1_1)
 have bD : Sl Rep.u w (imm (Lg.O0 A)) v1_13 a1.Hist.Pos.Counts := (Sl.start hs1_13)
 have bE : Sl Rep.u w (imm (Lg.O0 A)) v1_15 a1.Hist.Neg.Counts := (Sl.start hs1_15)
 refine (show WC _ _ _ _ [(0, ag (cp a0 v0_1 v0_13 v0_15)), (1, ag (cp a1 v1_1 v1_13 v1_15))] _ from ?_)
 refine sq (rg ?_)
 have bF := h
 obtain ⟨bu, bw, bx, rfl⟩ := ae.shape
 have h := bF
 have bG := h
 obtain ⟨ai, aj, ak, rfl⟩ := af.shape
 have h := bG
 have bH := h
 obtain ⟨al, am, an, rfl⟩ := ah.shape
 have h := bH
 refine WL.box (O := (Lg.O0 A)) 11 (cp a0 (vl bu bw bx) (vl ai aj ak) (vl al am an)) z z z ?_
 intro n ce cm p Z
 have ao := bC.i p z z
 have bI := h
 obtain ⟨bz, bA, bB, rfl⟩ := ao.shape
 have h := bI
 have ap := bD.i p z z
 have bJ := h
 obtain ⟨aq, ar, au, rfl⟩ := ap.shape
 have h := bJ
 have av := bE.i p z z
 have bK := h
 obtain ⟨ax, ay, az, rfl⟩ := av.shape
 have h := bK
 refine WL.box (O := ce) 12 (cp a1 (vl bz bA bB) (vl aq ar au) (vl ax ay az)) z z z ?_
 intro o ab cn d aa
 refine wY (ya z) z (nl (th (sq (sq (WC.drawH [] [0, 1, 2, 3, 4, 5, 6, 7, 8, 9, 10, 11, 12, 13, 14] ab 15 fmix z (by kernel_rfl) ?_)))))
 intro bL c
 refine WD.y 0 z (by kernel_rfl) (fun _ _ _ => yf fo40_0 z) z (WD.y 1 z (by kernel_rfl) (fun co ct aG => have bM := Z.st d z; have bO := bM.st c z; have bP := bO.st aG z; yl ty9 z z (bP.cell 0 _ z)) z (WD.y 2 z (by kernel_rfl) (fun _ _ _ => yf fo40_0 z) z (WD.y 3 z (by kernel_rfl) (fun cq cu aH => have bQ := aa.st c z; have bR := bQ.st aH z; yl ty9 z z (bR.cell 0 _ z)) z (WD.y 4 z (by kernel_rfl) (fun _ _ _ => Y.neq_s z z) z (WD.y 5 z (by kernel_rfl) (fun _ _ _ => ym z) z ?_)))))
 obtain ⟨cf, h, bS⟩ := bnd h
 refine WD.join (σ := (Bool × Own)) (f' := 0) [14, 13, 12, 11, 8, 10, 9, 7, 6, 5, 4, 3, 2, 1, 0] (fun x O' w' => x.1 = cf ∧ Stp [] ab bL x.2 w' ∧ x.2 = O') (fun x => [(2, pt n 0), (3, pt o 0), (19, vB x.1)]) (fun aA => ?_) ?_
 ·rcases cnd h with ⟨r, h⟩ | ⟨r, h⟩
  ·refine WD.ren 10 z (congrArg vB r) (WD.gS 6 z (by kernel_rfl) z z z z (WD.gS 7 z (by kernel_rfl) z z z z (WD.gS 9 z (by kernel_rfl) z z z z (WD.gS 10 z (by kernel_rfl) z z z z (WD.heavy 8 z (by kernel_rfl) (WL.gS z z z z (nl (At.dq (sr_ _ _ _) (WD.heavy 11 z (by kernel_rfl) ?_)))))))))
   refine WL.gS z z z z (nl (At.dq (sr_ _ _ _) (WD.heavy 12 z (by kernel_rfl) (WL.gS z z z z (nl (At.dq (sr_ _ _ _) (WD.gS 13 z (by kernel_rfl) z z z z (WD.y 14 z (by kernel_rfl) (fun _ _ _ => Y.pick (b := true) z z) z (WD.ren 10 z (congrArg vB r.symm) ?_)))))))))
   exact aA (true, ab) _ _ _ ⟨some1 h, (sr_ _ _ _), z⟩ (.cons z (.cons z (.cons z .nil)))
  ·refine WD.ren 10 z (congrArg vB r) (WD.gT 6 z (by kernel_rfl) z z (fun _ _ _ => yf fo40_1 z) z (WD.gT 7 z (by kernel_rfl) z z (fun cr cv aI => have bT := Z.st d z; have bU := bT.st c z; have bW := bU.st aI z; yl ty32 z z (bW.cell 1 _ z)) z (WD.gT 9 z (by kernel_rfl) z z (fun _ _ _ => yf fo40_1 z) z (WD.gT 10 z (by kernel_rfl) z z (fun ch cs aC => have aJ := aa.st c z; have aK := aJ.st aC z; yl ty32 z z (aK.cell 1 _ z)) z (WD.heavy 8 z (by kernel_rfl) (ug z z ?_))))))
   have aN := ((ae.i p z z).i d z z).i c z z
   obtain ⟨bX, aO, h⟩ := bnd h
   refine WL.call (vals := [(vl bu bw bx)]) kok30 z z (c_ref11_Sorted (A := fun _ => True) (Sl.all aN) aO) ?_
   rintro D aP ⟨_, rfl, aQ, bY⟩
   obtain ⟨aD, b8, ac, t⟩ := adoptE ab (fun k => if ob D = some k then 13 else 1) aQ
   have aR : OwnSl 13 rep_api_Pair 67 aD aP D bX := RowF.adopt 13 flat_api_Pair bY ac (fun k hk => if_pos hk)
   refine nl (At.dq (su_ t z) (WD.heavy 11 z (by kernel_rfl) (ug z z ?_)))
   have aU := ((ao.i d z z).i c z z).i t z z
   obtain ⟨bZ, aW, h⟩ := bnd h
   refine WL.call (vals := [(vl bz bA bB)]) kok30 z z (c_ref11_Sorted (A := fun _ => True) (Sl.all aU) aW) ?_
   rintro F aX ⟨_, rfl, aY, b0⟩
   obtain ⟨aE, b9, ad, C⟩ := adoptE aD (fun k => if ob F = some k then 14 else 1) aY
   have aZ : OwnSl 14 rep_api_Pair 67 aE aX F bZ := RowF.adopt 14 flat_api_Pair b0 ad (fun k hk => if_pos hk)
   refine nl (At.dq (su_ C z) (WD.heavy 12 z (by kernel_rfl) (ug z z ?_)))
   have a2 := aR.st C z z z
   obtain ⟨b1, a3, h⟩ := bnd h
   refine WL.call (vals := [D, F]) kok29 z z (c_ref11_Same (A := fun _ => True) (a2.src.sl) (aZ.src.sl) a3) ?_
   rintro ci cj ⟨rfl, a4⟩
   obtain ⟨b2, ca, cb, U⟩ := adoptE aE (fun k => 1) a4
   refine nl (At.dq (su_ U z) (WD.gT 13 z (by kernel_rfl) z z (fun _ _ _ => Y.not z) z (WD.y 14 z (by kernel_rfl) (fun _ _ _ => Y.pick (b := false) z z) z (WD.ren 10 z (congrArg vB r.symm) ?_))))
   exact aA ((!b1), b2) _ _ _ ⟨some1 h, (tr_ (su_ t z) (tr_ (su_ C z) (su_ U z))), z⟩ (.cons z (.cons z (.cons z .nil)))
 ·rintro ⟨cg, V⟩ _ q ⟨rfl, j, rfl⟩
  replace h := bS
  try dsimp only at h j
  refine (show WD _ _ _ _ _ _ _ _ [(2, pt n 0), (3, pt o 0), (19, vB cg)] _ _ from ?_)
  refine WD.done_ (by kernel_rfl) (th ?_)
  rcases cnd h with ⟨G, h⟩ | ⟨G, h⟩
  ·refine WC.condT' z G (sq (rg (wY (ya z) z (nl (th (rt (At.thenR ?_)))))))
   obtain rfl := some1 h
   have a5 : Stp [] (Lg.O0 A) w V q := (tr_ (su_ p z) (tr_ (su_ d z) (tr_ (su_ c z) (su_ j z))))
   exact At.res (.inl z) z (.tmp z .nil) ⟨z, (se_ a5 z z)⟩
  ·refine WC.condF' z G (sk (th (sq (sq (rg (wY (yf fo40_2 z) z ?_))))))
   have l := ((Z.st d z).st c z).st j z
   refine wY (yl ty3 z z (l.cell 2 _ z)) z (wY (yf fo40_2 z) z ?_)
   have m := (aa.st c z).st j z
   refine wY (yl ty3 z z (m.cell 2 _ z)) z (wY (Y.neq_i z z) z (wY (ym z) z ?_))
   refine WL.cut 6 (σ := Unit) (fun _ w' => q = w') (fun _ => [(2, pt n 0), (3, pt o 0), (31, vB ((!decide (a0.Kind = a1.Kind)) || (!decide (a0.Temp = a1.Temp))))]) ?_ ?_
   ·refine WL.part 25 z (fun H => ?_) (fun H => ?_)
    ·refine WL.gS z z z z (WL.gS z z z z (WL.gS z z z z (WL.gS z z z z (WL.gS z z z z (wY (Y.pick (b := true) z z) z (WL.ren (v' := vB ((!decide (a0.Kind = a1.Kind)) || (!decide (a0.Temp = a1.Temp)))) 31 z (congrArg vB (orT H)) ?_))))))
     exact nl (At.join () z (.cons z (.cons z (.cons z .nil))))
    ·refine ug z z (wY (yf fo40_3 z) z (ug z z (wY (yl ty3 z z (l.cell 3 _ z)) z (ug z z (wY (yf fo40_3 z) z (ug z z (wY (yl ty3 z z (m.cell 3 _ z)) z (ug z z (wY (Y.neq_i z z) z ?_)))))))))
     refine wY (Y.pick (b := false) z z) z (WL.ren (v' := vB ((!decide (a0.Kind = a1.Kind)) || (!decide (a0.Temp = a1.Temp)))) 31 z (congrArg vB (orF H)) ?_)
     exact nl (At.join () z (.cons z (.cons z (.cons z .nil))))
   ·rintro _ _ rfl
    refine (show WL _ _ _ _ _ [(2, pt n 0), (3, pt o 0), (31, vB ((!decide (a0.Kind = a1.Kind)) || (!decide (a0.Temp = a1.Temp))))] _ from ?_)
    refine wY (ym z) z ?_
    refine WL.cut 6 (σ := Unit) (fun _ w' => q = w') (fun _ => [(2, pt n 0), (3, pt o 0), (38, vB (((!decide (a0.Kind = a1.Kind)) || (!decide (a0.Temp = a1.Temp))) || (!decide (a0.Mono = a1.Mono))))]) ?_ ?_
    ·refine WL.part 32 z (fun I => ?_) (fun I => ?_)
     ·refine WL.gS z z z z (WL.gS z z z z (WL.gS z z z z (WL.gS z z z z (WL.gS z z z z (wY (Y.pick (b := true) z z) z (WL.ren (v' := vB (((!decide (a0.Kind = a1.Kind)) || (!decide (a0.Temp = a1.Temp))) || (!decide (a0.Mono = a1.Mono)))) 38 z (congrArg vB (orT I)) ?_))))))
      exact nl (At.join () z (.cons z (.cons z (.cons z .nil))))
     ·refine ug z z (wY (yf fo40_4 z) z (ug z z (wY (yl ty4 z z (l.cell 4 _ z)) z (ug z z (wY (yf fo40_4 z) z (ug z z (wY (yl ty4 z z (m.cell 4 _ z)) z (ug z z (wY (Y.neqB z z ty4.u) z ?_)))))))))
      refine wY (Y.pick (b := false) z z) z (WL.ren (v' := vB (((!decide (a0.Kind = a1.Kind)) || (!decide (a0.Temp = a1.Temp))) || (!decide (a0.Mono = a1.Mono)))) 38 z (congrArg vB (orF I)) ?_)
      exact nl (At.join () z (.cons z (.cons z (.cons z .nil))))
    ·rintro _ _ rfl
     refine (show WL _ _ _ _ _ [(2, pt n 0), (3, pt o 0), (38, vB (((!decide (a0.Kind = a1.Kind)) || (!decide (a0.Temp = a1.Temp))) || (!decide (a0.Mono = a1.Mono))))] _ from ?_)
     refine wY (ym z) z ?_
     refine WL.cut 6 (σ := Unit) (fun _ w' => q = w') (fun _ => [(2, pt n 0), (3, pt o 0), (45, vB ((((!decide (a0.Kind = a1.Kind)) || (!decide (a0.Temp = a1.Temp))) || (!decide (a0.Mono = a1.Mono))) || (!decide (a0.Start = a1.Start))))]) ?_ ?_
     ·refine WL.part 39 z (fun J => ?_) (fun J => ?_)
      ·refine WL.gS z z z z (WL.gS z z z z (WL.gS z z z z (WL.gS z z z z (WL.gS z z z z (wY (Y.pick (b := true) z z) z (WL.ren (v' := vB ((((!decide (a0.Kind = a1.Kind)) || (!decide (a0.Temp = a1.Temp))) || (!decide (a0.Mono = a1.Mono))) || (!decide (a0.Start = a1.Start)))) 45 z (congrArg vB (orT J)) ?_))))))
       exact nl (At.join () z (.cons z (.cons z (.cons z .nil))))
      ·refine ug z z (wY (yf fo40_5 z) z (ug z z (wY (yl ty3 z z (l.cell 5 _ z)) z (ug z z (wY (yf fo40_5 z) z (ug z z (wY (yl ty3 z z (m.cell 5 _ z)) z (ug z z (wY (Y.neq_i z z) z ?_)))))))))
       refine wY (Y.pick (b := false) z z) z (WL.ren (v' := vB ((((!decide (a0.Kind = a1.Kind)) || (!decide (a0.Temp = a1.Temp))) || (!decide (a0.Mono = a1.Mono))) || (!decide (a0.Start = a1.Start)))) 45 z (congrArg vB (orF J)) ?_)
       exact nl (At.join () z (.cons z (.cons z (.cons z .nil))))
     ·rintro _ _ rfl
      refine (show WL _ _ _ _ _ [(2, pt n 0), (3, pt o 0), (45, vB ((((!decide (a0.Kind = a1.Kind)) || (!decide (a0.Temp = a1.Temp))) || (!decide (a0.Mono = a1.Mono))) || (!decide (a0.Start = a1.Start))))] _ from ?_)
      refine wY (ym z) z ?_
      refine WL.cut 6 (σ := Unit) (fun _ w' => q = w') (fun _ => [(2, pt n 0), (3, pt o 0), (52, vB (((((!decide (a0.Kind = a1.Kind)) || (!decide (a0.Temp = a1.Temp))) || (!decide (a0.Mono = a1.Mono))) || (!decide (a0.Start = a1.Start))) || (!decide (a0.Time = a1.Time))))]) ?_ ?_
      ·refine WL.part 46 z (fun K => ?_) (fun K => ?_)
       ·refine WL.gS z z z z (WL.gS z z z z (WL.gS z z z z (WL.gS z z z z (WL.gS z z z z (wY (Y.pick (b := true) z z) z (WL.ren (v' := vB (((((!decide (a0.Kind = a1.Kind)) || (!decide (a0.Temp = a1.Temp))) || (!decide (a0.Mono = a1.Mono))) || (!decide (a0.Start = a1.Start))) || (!decide (a0.Time = a1.Time)))) 52 z (congrArg vB (orT K)) ?_))))))
        exact nl (At.join () z (.cons z (.cons z (.cons z .nil))))
       ·refine ug z z (wY (yf fo40_6 z) z (ug z z (wY (yl ty3 z z (l.cell 6 _ z)) z (ug z z (wY (yf fo40_6 z) z (ug z z (wY (yl ty3 z z (m.cell 6 _ z)) z (ug z z (wY (Y.neq_i z z) z ?_)))))))))
        refine wY (Y.pick (b := false) z z) z (WL.ren (v' := vB (((((!decide (a0.Kind = a1.Kind)) || (!decide (a0.Temp = a1.Temp))) || (!decide (a0.Mono = a1.Mono))) || (!decide (a0.Start = a1.Start))) || (!decide (a0.Time = a1.Time)))) 52 z (congrArg vB (orF K)) ?_)
        exact nl (At.join () z (.cons z (.cons z (.cons z .nil))))
      ·rintro _ _ rfl
       refine (show WL _ _ _ _ _ [(2, pt n 0), (3, pt o 0), (52, vB (((((!decide (a0.Kind = a1.Kind)) || (!decide (a0.Temp = a1.Temp))) || (!decide (a0.Mono = a1.Mono))) || (!decide (a0.Start = a1.Start))) || (!decide (a0.Time = a1.Time))))] _ from ?_)
       refine nl (th ?_)
       rcases cnd h with ⟨L, h⟩ | ⟨L, h⟩
       ·refine WC.condT' z L (sq (rg (wY (ya z) z (nl (th (rt (At.thenR ?_)))))))
        obtain rfl := some1 h
        have a9 : Stp [] (Lg.O0 A) w V q := (tr_ (su_ p z) (tr_ (su_ d z) (tr_ (su_ c z) (su_ j z))))
        exact At.res (.inl z) z (.tmp z .nil) ⟨z, (se_ a9 z z)⟩
       ·refine WC.condF' z L (sk (th (sq (rg (wY (yf fo40_7 z) z (wY (yl ty3 z z (l.cell 7 _ z)) z (wY (yf fo40_7 z) z (wY (yl ty3 z z (m.cell 7 _ z)) z (wY (Y.eql_i z z) z ?_)))))))))
        refine wY (ym z) z ?_
        refine WL.cut 6 (σ := Unit) (fun _ w' => q = w') (fun _ => [(2, pt n 0), (3, pt o 0), (64, vB ((decide (a0.Int_ = a1.Int_)) && (decide (a0.Re = a1.Re))))]) ?_ ?_
        ·refine WL.part 58 z (fun M => ?_) (fun M => ?_)
         ·refine ug z z (wY (yf fo40_8 z) z (ug z z (wY (yl ty33 z z (l.cell 8 _ z)) z (ug z z (wY (yf fo40_8 z) z (ug z z (wY (yl ty33 z z (m.cell 8 _ z)) z (ug z z (wY (Y.eql_u z z) z ?_)))))))))
          refine wY (Y.pick (b := true) z z) z (WL.ren (v' := vB ((decide (a0.Int_ = a1.Int_)) && (decide (a0.Re = a1.Re)))) 64 z (congrArg vB (andT M)) ?_)
          exact nl (At.join () z (.cons z (.cons z (.cons z .nil))))
         ·refine WL.gS z z z z (WL.gS z z z z (WL.gS z z z z (WL.gS z z z z (WL.gS z z z z (wY (Y.pick (b := false) z z) z (WL.ren (v' := vB ((decide (a0.Int_ = a1.Int_)) && (decide (a0.Re = a1.Re)))) 64 z (congrArg vB (andF M)) ?_))))))
          exact nl (At.join () z (.cons z (.cons z (.cons z .nil))))
        ·rintro _ _ rfl
         refine (show WL _ _ _ _ _ [(2, pt n 0), (3, pt o 0), (64, vB ((decide (a0.Int_ = a1.Int_)) && (decide (a0.Re = a1.Re))))] _ from ?_)
         refine wY (ym z) z ?_
         refine WL.cut 6 (σ := Unit) (fun _ w' => q = w') (fun _ => [(2, pt n 0), (3, pt o 0), (71, vB (((decide (a0.Int_ = a1.Int_)) && (decide (a0.Re = a1.Re))) && (decide (a0.Im = a1.Im))))]) ?_ ?_
         ·refine WL.part 65 z (fun Q => ?_) (fun Q => ?_)
          ·refine ug z z (wY (yf fo40_9 z) z (ug z z (wY (yl ty33 z z (l.cell 9 _ z)) z (ug z z (wY (yf fo40_9 z) z (ug z z (wY (yl ty33 z z (m.cell 9 _ z)) z (ug z z (wY (Y.eql_u z z) z ?_)))))))))
           refine wY (Y.pick (b := true) z z) z (WL.ren (v' := vB (((decide (a0.Int_ = a1.Int_)) && (decide (a0.Re = a1.Re))) && (decide (a0.Im = a1.Im)))) 71 z (congrArg vB (andT Q)) ?_)
           exact nl (At.join () z (.cons z (.cons z (.cons z .nil))))
          ·refine WL.gS z z z z (WL.gS z z z z (WL.gS z z z z (WL.gS z z z z (WL.gS z z z z (wY (Y.pick (b := false) z z) z (WL.ren (v' := vB (((decide (a0.Int_ = a1.Int_)) && (decide (a0.Re = a1.Re))) && (decide (a0.Im = a1.Im)))) 71 z (congrArg vB (andF Q)) ?_))))))
           exact nl (At.join () z (.cons z (.cons z (.cons z .nil))))
         ·rintro _ _ rfl
          refine (show WL _ _ _ _ _ [(2, pt n 0), (3, pt o 0), (71, vB (((decide (a0.Int_ = a1.Int_)) && (decide (a0.Re = a1.Re))) && (decide (a0.Im = a1.Im))))] _ from ?_)
          refine wY (ym z) z ?_
          refine WL.cut 6 (σ := Unit) (fun _ w' => q = w') (fun _ => [(2, pt n 0), (3, pt o 0), (78, vB ((((decide (a0.Int_ = a1.Int_)) && (decide (a0.Re = a1.Re))) && (decide (a0.Im = a1.Im))) && (decide (a0.Flags = a1.Flags))))]) ?_ ?_
          ·refine WL.part 72 z (fun S => ?_) (fun S => ?_)
           ·refine ug z z (wY (yf fo40_11 z) z (ug z z (wY (yl ty3 z z (l.cell 16 _ z)) z (ug z z (wY (yf fo40_11 z) z (ug z z (wY (yl ty3 z z (m.cell 16 _ z)) z (ug z z (wY (Y.eql_i z z) z ?_)))))))))
            refine wY (Y.pick (b := true) z z) z (WL.ren (v' := vB ((((decide (a0.Int_ = a1.Int_)) && (decide (a0.Re = a1.Re))) && (decide (a0.Im = a1.Im))) && (decide (a0.Flags = a1.Flags)))) 78 z (congrArg vB (andT S)) ?_)
            exact nl (At.join () z (.cons z (.cons z (.cons z .nil))))
           ·refine WL.gS z z z z (WL.gS z z z z (WL.gS z z z z (WL.gS z z z z (WL.gS z z z z (wY (Y.pick (b := false) z z) z (WL.ren (v' := vB ((((decide (a0.Int_ = a1.Int_)) && (decide (a0.Re = a1.Re))) && (decide (a0.Im = a1.Im))) && (decide (a0.Flags = a1.Flags)))) 78 z (congrArg vB (andF S)) ?_))))))
            exact nl (At.join () z (.cons z (.cons z (.cons z .nil))))
          ·rintro _ _ rfl
           refine (show WL _ _ _ _ _ [(2, pt n 0), (3, pt o 0), (78, vB ((((decide (a0.Int_ = a1.Int_)) && (decide (a0.Re = a1.Re))) && (decide (a0.Im = a1.Im))) && (decide (a0.Flags = a1.Flags))))] _ from ?_)
           refine wY (ym z) z ?_
           obtain ⟨b3, h, ba⟩ := bnd h
           refine WL.cut 6 (σ := (Bool × Own)) (fun x w' => x.1 = b3 ∧ Stp [] V q x.2 w') (fun x => [(85, vB x.1)]) ?_ ?_
           ·rcases cnd h with ⟨T, h⟩ | ⟨T, h⟩
            ·refine WL.ren 79 z (congrArg vB T) (ug z z (wY (yf fo40_10 z) z (ug z z (wY (yL ty38 z z (l.cells 10 (hl a0.Hist (vl ai aj ak) (vl al am an)) z) z) z (ug z z (wY (yf fo40_10 z) z (ug z z (wY (yL ty38 z z (m.cells 10 (hl a1.Hist (vl aq ar au) (vl ax ay az)) z) z) z (ug z z ?_)))))))))
             have bf := (((af.i p z z).i d z z).i c z z).i j z z
             have bj := (((ah.i p z z).i d z z).i c z z).i j z z
             have bm := ((ap.i d z z).i c z z).i j z z
             have bp := ((av.i d z z).i c z z).i j z z
             obtain ⟨b4, bq, h⟩ := bnd h
             refine WL.call (vals := [ag (hl a0.Hist (vl ai aj ak) (vl al am an)), ag (hl a1.Hist (vl aq ar au) (vl ax ay az))]) kok31 z z (c_ref08_Same (A := fun _ => True) (a0 := a0.Hist) (a1 := a1.Hist) (Sl.all bf) (Sl.all bj) (Sl.all bm) (Sl.all bp) bq) ?_
             rintro ck cl ⟨rfl, br⟩
             obtain ⟨b5, cc, cd, aF⟩ := adoptE V (fun k => 1) br
             refine wY (Y.pick (b := true) z z) z ?_
             exact nl (At.join (σ := (Bool × Own)) (b4, b5) ⟨some1 h, (su_ aF z)⟩ (.cons z .nil))
            ·refine WL.ren 79 z (congrArg vB T) (WL.gS z z z z (WL.gS z z z z (WL.gS z z z z (WL.gS z z z z (WL.gS z z z z (wY (Y.pick (b := false) z z) z ?_))))))
             exact nl (At.join (σ := (Bool × Own)) (false, V) ⟨some1 h, (sr_ _ _ _)⟩ (.cons z .nil))
           ·rintro ⟨b6, b7⟩ bs ⟨rfl, W⟩
            replace h := ba
            try dsimp only at h W
            refine (show WL _ _ _ _ _ [(85, vB b6)] _ from ?_)
            refine wY (ya z) z (nl (th (rt ?_)))
            obtain rfl := some1 h
            have bt : Stp [] (Lg.O0 A) w b7 bs := (tr_ (su_ p z) (tr_ (su_ d z) (tr_ (su_ c z) (tr_ (su_ j z) (su_ W z)))))
            exact At.res (.inl z) z (.tmp z .nil) ⟨z, (se_ bt z z)⟩
theorem c_ref36_Window {a0 : Int} {a1 : Int} {w : World} {r0 : Int} (h : ref36_Window a0 a1 = some r0) : Rets Tryz.prog 16 [vi a0, vi a1] w (fun v w' => v = vi r0 ∧ Ext w w') := by
 unfold ref36_Window at h
 refine Rets.enter Tryz.func16 z z ?_
 refine (show WC _ _ _ _ [(0, vi a0), (1, vi a1)] _ from ?_)
 refine sq (rg (wY (ya z) z (nl (th (sq (sq (rg (wY (ym z) z (wY (Y.lss_i z z) z ?_)))))))))
 refine wY (ym z) z ?_
 refine WL.cut 3 (σ := Unit) (fun _ w' => w = w') (fun _ => [(0, vi a0), (1, vi a1), (10, vB ((decide (a1 < 1)) || (decide (a0 < 0))))]) ?_ ?_
 ·refine WL.part 7 z (fun c => ?_) (fun c => ?_)
  ·refine WL.gS z z z z (WL.gS z z z z (wY (Y.pick (b := true) z z) z (WL.ren (v' := vB ((decide (a1 < 1)) || (decide (a0 < 0)))) 10 z (congrArg vB (orT c)) ?_)))
   exact nl (At.join () z (.cons z (.cons z (.cons z .nil))))
  ·refine ug z z (wY (ym z) z (ug z z (wY (Y.lss_i z z) z (wY (Y.pick (b := false) z z) z (WL.ren (v' := vB ((decide (a1 < 1)) || (decide (a0 < 0)))) 10 z (congrArg vB (orF c)) ?_)))))
   exact nl (At.join () z (.cons z (.cons z (.cons z .nil))))
 ·rintro _ _ rfl
  refine (show WL _ _ _ _ _ [(0, vi a0), (1, vi a1), (10, vB ((decide (a1 < 1)) || (decide (a0 < 0))))] _ from ?_)
  refine wY (ym z) z ?_
  refine WL.cut 3 (σ := Unit) (fun _ w' => w = w') (fun _ => [(0, vi a0), (1, vi a1), (14, vB (((decide (a1 < 1)) || (decide (a0 < 0))) || (decide (4503599627370496 < a0))))]) ?_ ?_
  ·refine WL.part 11 z (fun d => ?_) (fun d => ?_)
   ·refine WL.gS z z z z (WL.gS z z z z (wY (Y.pick (b := true) z z) z (WL.ren (v' := vB (((decide (a1 < 1)) || (decide (a0 < 0))) || (decide (4503599627370496 < a0)))) 14 z (congrArg vB (orT d)) ?_)))
    exact nl (At.join () z (.cons z (.cons z (.cons z .nil))))
   ·refine ug z z (wY (ym z) z (ug z z (wY (Y.gtr_i z z) z (wY (Y.pick (b := false) z z) z (WL.ren (v' := vB (((decide (a1 < 1)) || (decide (a0 < 0))) || (decide (4503599627370496 < a0)))) 14 z (congrArg vB (orF d)) ?_)))))
    exact nl (At.join () z (.cons z (.cons z (.cons z .nil))))
  ·rintro _ _ rfl
   refine (show WL _ _ _ _ _ [(0, vi a0), (1, vi a1), (14, vB (((decide (a1 < 1)) || (decide (a0 < 0))) || (decide (4503599627370496 < a0))))] _ from ?_)
   refine nl (th ?_)
   rcases cnd h with ⟨j, h⟩ | ⟨j, h⟩
   ·refine WC.condT' z j (sq (rg (wY (ya z) z (nl (th (rt (At.thenR ?_)))))))
    obtain rfl := some1 h
    have l : Stp [] (Lg.O0 (fun _ => False)) w (Lg.O0 (fun _ => False)) w := (sr_ _ _ _)
    exact At.res (.inl z) z (.tmp z .nil) ⟨z, (se_ l z z)⟩
   ·refine WC.condF' z j (sk (th (sq (rg (wY (ym z) z (wY (ym z) z ?_))))))
    obtain ⟨m, h⟩ := chk1 h
    refine wY (Y.quo_i (ne_of_chk m) z z) z ?_
    obtain ⟨p, n, h⟩ := lt1 h
    refine WL.yE (ya z) (congrArg vi n.symm) z (nl (th (rt ?_)))
    obtain rfl := some1 h
    have o : Stp [] (Lg.O0 (fun _ => False)) w (Lg.O0 (fun _ => False)) w := (sr_ _ _ _)
    exact At.res (.inl z) z (.tmp z .nil) ⟨z, (se_ o z z)⟩
theorem c_law36_RollupMerges {A : Nat → Prop} {v0_1 : Value} {v0_13 : Value} {v0_15 : Value} {a0 : api_Point} {v1_1 : Value} {v1_13 : Value} {v1_15 : Value} {a1 : api_Point} {a2 : Int} {a3 : Int} {w : World} (hs0_1 : Sl rep_api_Pair w A v0_1 a0.Attrs) (hs0_13 : Sl Rep.u w A v0_13 a0.Hist.Pos.Counts) (hs0_15 : Sl Rep.u w A v0_15 a0.Hist.Neg.Counts) (hs1_1 : Sl rep_api_Pair w A v1_1 a1.Attrs) (hs1_13 : Sl Rep.u w A v1_13 a1.Hist.Pos.Counts) (hs1_15 : Sl Rep.u w A v1_15 a1.Hist.Neg.Counts) {r0 : Bool} (h : law36_RollupMerges a0 a1 a2 a3 = some r0) : Rets Tryz.prog 4 [ag (cp a0 v0_1 v0_13 v0_15), ag (cp a1 v1_1 v1_13 v1_15), vi a2, vi a3] w (fun v w' => v = vB r0 ∧ Ext w w') := by
 unfold law36_RollupMerges at h
 refine Rets.enter Tryz.func4 z z ?_
 have bt : Sl rep_api_Pair w (imm (Lg.O0 A)) v0_1 a0.Attrs := (Sl.start hs0_1)
 have bu : Sl Rep.u w (imm (Lg.O0 A)) v0_13 a0.Hist.Pos.Counts := (Sl.start hs0_13)
 have bw : Sl Rep.u w (imm (Lg.O0 A)) v0_15 a0.Hist.Neg.Counts := (Sl.start hs0_15)
 have dt : Sl rep_api_Pair w (imm (Lg.O0 A)) v1_1 a1.Attrs := (Sl.start hs1_1)
 have du : Sl Rep.u w (imm (Lg.O0 A)) v1_13 a1.Hist.Pos.Counts := (Sl.start hs1_13)
 have dw : Sl Rep.u w (imm (Lg.O0 A)) v1_15 a1.Hist.Neg.Counts := (Sl.start hs1_15)
 refine (show WC _ _ _ _ [(0, ag (cp a0 v0_1 v0_13 v0_15)), (1, ag (cp a1 v1_1 v1_13 v1_15)), (2, vi a2), (3, vi a3)] _ from ?_)
 refine sq (rg ?_)
 have dx := h
 obtain ⟨ab, ac, ad, rfl⟩ := bt.shape
 have h := dx
 have dy := h
 obtain ⟨ae, af, ah, rfl⟩ := bu.shape
 have h := dy
 have dz := h
 obtain ⟨ai, aj, ak, rfl⟩ := bw.shape
 have h := dz
 refine WL.box (O := (Lg.O0 A)) 11 (cp a0 (vl ab ac ad) (vl ae af ah) (vl ai aj ak)) z z z ?_
 intro dp eF e2 t dA
 have aX := dt.i t z z
 have dB := h
 obtain ⟨al, am, an, rfl⟩ := aX.shape
 have h := dB
 have aY := du.i t z z
 have dC := h
 obtain ⟨ao, ap, aq, rfl⟩ := aY.shape
 have h := dC
 have aZ := dw.i t z z
 have dD := h
 obtain ⟨ar, au, av, rfl⟩ := aZ.shape
 have h := dD
 refine WL.box (O := eF) 12 (cp a1 (vl al am an) (vl ao ap aq) (vl ar au av)) z z z ?_
 intro dr eG e5 n bx
 refine wY (ya z) z (nl (th (sq (sq (rg ?_)))))
 obtain ⟨e9, dE, h⟩ := bnd h
 refine WL.call (vals := []) kok6 z z (c_law36_awake dE) ?_
 rintro e6 dF ⟨rfl, dG⟩
 obtain ⟨ds, eH, eI, d⟩ := adoptE eG (fun k => 1) dG
 refine wY (Y.not z) z (nl (th ?_))
 rcases cnd h with ⟨a4, h⟩ | ⟨a4, h⟩
 ·refine WC.condT' z a4 (sq (rg (wY (ya z) z (nl (th (rt (At.thenR ?_)))))))
  obtain rfl := some1 h
  have dH : Stp [] (Lg.O0 A) w ds dF := (tr_ (su_ t z) (tr_ (su_ n z) (su_ d z)))
  exact At.res (.inl z) z (.tmp z .nil) ⟨z, (se_ dH z z)⟩
 ·refine WC.condF' z a4 (sk (th (sq (sq (rg ?_)))))
  have bz := (dA.st n z).st d z
  refine wY (yL ty40 z z (bz.cells 0 (cp a0 (vl ab ac ad) (vl ae af ah) (vl ai aj ak)) z) z) z ?_
  have bA := ((bt.i t z z).i n z z).i d z z
  have bB := ((bu.i t z z).i n z z).i d z z
  have bC := ((bw.i t z z).i n z z).i d z z
  obtain ⟨fa, dP, h⟩ := bnd h
  refine WL.call (vals := [ag (cp a0 (vl ab ac ad) (vl ae af ah) (vl ai aj ak))]) kok11 z z (c_ref12_Light (A := fun _ => True) (a0 := a0) (Sl.all bA) (Sl.all bB) (Sl.all bC) dP) ?_
  rintro e7 dQ ⟨rfl, dR⟩
  obtain ⟨bD, eJ, eK, m⟩ := adoptE ds (fun k => 1) dR
  refine wY (Y.not z) z (wY (ym z) z ?_)
  obtain ⟨eL, h, dS⟩ := bnd h
  refine WL.cut 4 (σ := (Bool × Own)) (fun x w' => x.1 = eL ∧ Stp [] bD dQ x.2 w') (fun x => [(2, vi a2), (3, vi a3), (4, pt dp 0), (5, pt dr 0), (21, vB x.1)]) ?_ ?_
  ·rcases cnd h with ⟨a5, h⟩ | ⟨a5, h⟩
   ·refine WL.ren 17 z (congrArg vB a5) (WL.gS z z z z (WL.gS z z z z (WL.gS z z z z (wY (Y.pick (b := true) z z) z ?_))))
    exact nl (At.join (σ := (Bool × Own)) (true, bD) ⟨some1 h, (sr_ _ _ _)⟩ (.cons z (.cons z (.cons z (.cons z (.cons z .nil))))))
   ·refine WL.ren 17 z (congrArg vB a5) (ug z z ?_)
    have dU := (bx.st d z).st m z
    refine wY (yL ty40 z z (dU.cells 0 (cp a1 (vl al am an) (vl ao ap aq) (vl ar au av)) z) z) z (ug z z ?_)
    have dX := ((aX.i n z z).i d z z).i m z z
    have d0 := ((aY.i n z z).i d z z).i m z z
    have bK := ((aZ.i n z z).i d z z).i m z z
    obtain ⟨d1, bL, h⟩ := bnd h
    refine WL.call (vals := [ag (cp a1 (vl al am an) (vl ao ap aq) (vl ar au av))]) kok11 z z (c_ref12_Light (A := fun _ => True) (a0 := a1) (Sl.all dX) (Sl.all d0) (Sl.all bK) bL) ?_
    rintro eN eO ⟨rfl, bM⟩
    obtain ⟨d2, eu, ew, bE⟩ := adoptE bD (fun k => 1) bM
    refine ug z z (wY (Y.not z) z (wY (Y.pick (b := false) z z) z ?_))
    exact nl (At.join (σ := (Bool × Own)) ((!d1), d2) ⟨some1 h, (su_ bE z)⟩ (.cons z (.cons z (.cons z (.cons z (.cons z .nil))))))
  ·rintro ⟨eM, ay⟩ d3 ⟨rfl, p⟩
   replace h := dS
   try dsimp only at h p
   refine (show WL _ _ _ _ _ [(2, vi a2), (3, vi a3), (4, pt dp 0), (5, pt dr 0), (21, vB eM)] _ from ?_)
   refine nl (th ?_)
   rcases cnd h with ⟨az, h⟩ | ⟨az, h⟩
   ·refine WC.condT' z az (sq (rg (wY (ya z) z (nl (th (rt (At.thenR ?_)))))))
    obtain rfl := some1 h
    have bO : Stp [] (Lg.O0 A) w ay d3 := (tr_ (su_ t z) (tr_ (su_ n z) (tr_ (su_ d z) (tr_ (su_ m z) (su_ p z)))))
    exact At.res (.inl z) z (.tmp z .nil) ⟨z, (se_ bO z z)⟩
   ·refine WC.condF' z az (sk (th (sq (rg ?_))))
    have a7 := (bz.st m z).st p z
    refine wY (yL ty40 z z (a7.cells 0 (cp a0 (vl ab ac ad) (vl ae af ah) (vl ai aj ak)) z) z) z ?_
    have a8 := ((bx.st d z).st m z).st p z
    refine wY (yL ty40 z z (a8.cells 0 (cp a1 (vl al am an) (vl ao ap aq) (vl ar au av)) z) z) z ?_
    have a9 := (bA.i m z z).i p z z
    have ba := (bB.i m z z).i p z z
    have bb := (bC.i m z z).i p z z
    have bc := (((aX.i n z z).i d z z).i m z z).i p z z
    have bd := (((aY.i n z z).i d z z).i m z z).i p z z
    have bf := (((aZ.i n z z).i d z z).i m z z).i p z z
    obtain ⟨⟨C, H⟩, b5, h⟩ := bnd h
    refine WL.call (vals := [ag (cp a0 (vl ab ac ad) (vl ae af ah) (vl ai aj ak)), ag (cp a1 (vl al am an) (vl ao ap aq) (vl ar au av))]) kok12 z z (c_rollup_Merge (A := imm ay) (a0 := a0) (a1 := a1) a9 ba bb bc bd bf b5) ?_
    rintro eP aA ⟨d4, d5, d6, rfl, b6, d7, d8, d9⟩
    obtain ⟨aC, I, J, o⟩ := adoptE ay (fun k => 1) b6
    have b7 : Sl rep_api_Pair aA (imm aC) d4 C.Attrs := Sl.adoptI (O := ay) d7 (fun _ hk => hk) (fun _ _ => Nat.le_refl _) I J
    have b8 : Sl Rep.u aA (imm aC) d5 C.Hist.Pos.Counts := Sl.adoptI (O := ay) d8 (fun _ hk => hk) (fun _ _ => Nat.le_refl _) I J
    have b9 : Sl Rep.u aA (imm aC) d6 C.Hist.Neg.Counts := Sl.adoptI (O := ay) d9 (fun _ hk => hk) (fun _ _ => Nat.le_refl _) I J
    refine wY (ym z) z (wY (yx z z) z (wY (yx z z) z (WL.alloc (O := aC) 13 [vs [], sn, vi 0, vi 0, vB false, vi 0, vi 0, vi 0, vu 0, vu 0, vi 0, vu 0, vi 0, sn, vi 0, sn, vi 0] ty40 z z ?_)))
    intro aD ax eQ j ca
    have bg := b7.i j z z
    have cb := h
    obtain ⟨K, L, M, rfl⟩ := bg.shape
    have h := cb
    have bh := b8.i j z z
    have cc := h
    obtain ⟨Q, S, T, rfl⟩ := bh.shape
    have h := cc
    have bi := b9.i j z z
    have cd := h
    obtain ⟨U, V, W, rfl⟩ := bi.shape
    have h := cd
    refine WL.store (v := ag (cp C (vl K L M) (vl Q S T) (vl U V W))) (cells' := (cp C (vl K L M) (vl Q S T) (vl U V W))) ty40 z z ca z (le_ z) z z ?_
    intro eR l ce
    refine wY (ya z) z (nl (th (sq (rg ?_))))
    have ch := ((a7.st o z).st j z).st l z
    refine wY (yL ty40 z z (ch.cells 0 (cp a0 (vl ab ac ad) (vl ae af ah) (vl ai aj ak)) z) z) z ?_
    have ck := ((a8.st o z).st j z).st l z
    refine wY (yL ty40 z z (ck.cells 0 (cp a1 (vl al am an) (vl ao ap aq) (vl ar au av)) z) z) z ?_
    have cn := ((a9.i o z z).i j z z).i l z z
    have cr := ((ba.i o z z).i j z z).i l z z
    have cu := ((bb.i o z z).i j z z).i l z z
    have cx := ((bc.i o z z).i j z z).i l z z
    have cA := ((bd.i o z z).i j z z).i l z z
    have cE := ((bf.i o z z).i j z z).i l z z
    obtain ⟨c, cF, h⟩ := bnd h
    refine WL.call (vals := [ag (cp a0 (vl ab ac ad) (vl ae af ah) (vl ai aj ak)), ag (cp a1 (vl al am an) (vl ao ap aq) (vl ar au av))]) kok13 z z (c_ref36_Merge (A := imm ax) (a0 := a0) (a1 := a1) cn cr cu cx cA cE cF) ?_
    rintro eS aE ⟨ea, eb, ec, rfl, cG, ed, ee, ef⟩
    obtain ⟨aF, Z, aa, G⟩ := adoptE ax (fun k => 1) cG
    have cH : Sl rep_api_Pair aE (imm aF) ea c.P.Attrs := Sl.adoptI (O := ax) ed (fun _ hk => hk) (fun _ _ => Nat.le_refl _) Z aa
    have cI : Sl Rep.u aE (imm aF) eb c.P.Hist.Pos.Counts := Sl.adoptI (O := ax) ee (fun _ hk => hk) (fun _ _ => Nat.le_refl _) Z aa
    have cJ : Sl Rep.u aE (imm aF) ec c.P.Hist.Neg.Counts := Sl.adoptI (O := ax) ef (fun _ hk => hk) (fun _ _ => Nat.le_refl _) Z aa
    refine WL.alloc (O := aF) 14 [vs [], sn, vi 0, vi 0, vB false, vi 0, vi 0, vi 0, vu 0, vu 0, vi 0, vu 0, vi 0, sn, vi 0, sn, vi 0, vi 0] ty45 z z ?_
    intro e8 eg eT q cK
    have bj := cH.i q z z
    have cL := h
    obtain ⟨aG, aH, aI, rfl⟩ := bj.shape
    have h := cL
    have bk := cI.i q z z
    have cM := h
    obtain ⟨aJ, aK, aL, rfl⟩ := bk.shape
    have h := cM
    have bl := cJ.i q z z
    have cN := h
    obtain ⟨aM, aN, aO, rfl⟩ := bl.shape
    have h := cN
    refine WL.store (v := ag [vs c.P.Name, (vl aG aH aI), vi c.P.Kind, vi c.P.Temp, vB c.P.Mono, vi c.P.Start, vi c.P.Time, vi c.P.Int_, vu c.P.Re, vu c.P.Im, vi c.P.Hist.Scale, vu c.P.Hist.Zero, vi c.P.Hist.Pos.Offset, (vl aJ aK aL), vi c.P.Hist.Neg.Offset, (vl aM aN aO), vi c.P.Flags, vi c.E]) (cells' := [vs c.P.Name, (vl aG aH aI), vi c.P.Kind, vi c.P.Temp, vB c.P.Mono, vi c.P.Start, vi c.P.Time, vi c.P.Int_, vu c.P.Re, vu c.P.Im, vi c.P.Hist.Scale, vu c.P.Hist.Zero, vi c.P.Hist.Pos.Offset, (vl aJ aK aL), vi c.P.Hist.Neg.Offset, (vl aM aN aO), vi c.P.Flags, vi c.E]) ty45 z z cK z (le_ z) z z ?_
    intro eU r bm
    refine nl (th (sq (sq (rg ?_))))
    have bn := ((ce.st G z).st q z).st r z
    refine wY (yL ty40 z z (bn.cells 0 (cp C (vl K L M) (vl Q S T) (vl U V W)) z) z) z (wY (yf fo45_0 z) z (wY (yL ty40 z z (bm.cells 0 [vs c.P.Name, (vl aG aH aI), vi c.P.Kind, vi c.P.Temp, vB c.P.Mono, vi c.P.Start, vi c.P.Time, vi c.P.Int_, vu c.P.Re, vu c.P.Im, vi c.P.Hist.Scale, vu c.P.Hist.Zero, vi c.P.Hist.Pos.Offset, (vl aJ aK aL), vi c.P.Hist.Neg.Offset, (vl aM aN aO), vi c.P.Flags] z) z) z ?_))
    have bo := (((bg.i l z z).i G z z).i q z z).i r z z
    have bp := (((bh.i l z z).i G z z).i q z z).i r z z
    have bq := (((bi.i l z z).i G z z).i q z z).i r z z
    have cZ := bj.i r z z
    have c0 := bk.i r z z
    have c1 := bl.i r z z
    obtain ⟨aP, c2, h⟩ := bnd h
    refine WL.call (vals := [ag (cp C (vl K L M) (vl Q S T) (vl U V W)), ag [vs c.P.Name, (vl aG aH aI), vi c.P.Kind, vi c.P.Temp, vB c.P.Mono, vi c.P.Start, vi c.P.Time, vi c.P.Int_, vu c.P.Re, vu c.P.Im, vi c.P.Hist.Scale, vu c.P.Hist.Zero, vi c.P.Hist.Pos.Offset, (vl aJ aK aL), vi c.P.Hist.Neg.Offset, (vl aM aN aO), vi c.P.Flags]]) kok14 z z (c_ref12_Same (A := fun _ => True) (a0 := C) (a1 := c.P) (Sl.all bo) (Sl.all bp) (Sl.all bq) (Sl.all cZ) (Sl.all c0) (Sl.all c1) c2) ?_
    rintro eV br ⟨rfl, c3⟩
    obtain ⟨a6, ex, ey, D⟩ := adoptE eg (fun k => 1) c3
    refine wY (Y.not z) z (wY (ym z) z ?_)
    refine WL.cut 5 (σ := Unit) (fun _ w' => br = w') (fun _ => [(2, vi a2), (3, vi a3), (9, pt aD 0), (10, vi H), (41, vB ((!aP) || (!decide (H = c.E))))]) ?_ ?_
    ·refine WL.part 36 z (fun aQ => ?_) (fun aQ => ?_)
     ·refine WL.gS z z z z (WL.gS z z z z (WL.gS z z z z (WL.gS z z z z (wY (Y.pick (b := true) z z) z (WL.ren (v' := vB ((!aP) || (!decide (H = c.E)))) 41 z (congrArg vB (orT aQ)) ?_)))))
      exact nl (At.join () z (.cons z (.cons z (.cons z (.cons z (.cons z .nil))))))
     ·refine ug z z (wY (ym z) z (ug z z (wY (yf fo45_1 z) z (ug z z ?_))))
      have c4 := bm.st D z
      refine wY (yl ty25 z z (c4.cell 17 _ z)) z (ug z z (wY (Y.neq_i z z) z (wY (Y.pick (b := false) z z) z (WL.ren (v' := vB ((!aP) || (!decide (H = c.E)))) 41 z (congrArg vB (orF aQ)) ?_))))
      exact nl (At.join () z (.cons z (.cons z (.cons z (.cons z (.cons z .nil))))))
    ·rintro _ _ rfl
     refine (show WL _ _ _ _ _ [(2, vi a2), (3, vi a3), (9, pt aD 0), (10, vi H), (41, vB ((!aP) || (!decide (H = c.E))))] _ from ?_)
     refine wY (ym z) z ?_
     obtain ⟨eh, h, c5⟩ := bnd h
     refine WL.cut 8 (σ := (Bool × Own)) (fun x w' => x.1 = eh ∧ Stp [] a6 br x.2 w') (fun x => [(9, pt aD 0), (10, vi H), (50, vB x.1)]) ?_ ?_
     ·rcases cnd h with ⟨aR, h⟩ | ⟨aR, h⟩
      ·refine WL.ren 42 z (congrArg vB aR) (WL.gS z z z z (WL.gS z z z z (WL.gS z z z z (WL.gS z z z z (WL.gS z z z z (WL.gS z z z z (WL.gS z z z z (wY (Y.pick (b := true) z z) z ?_))))))))
       exact nl (At.join (σ := (Bool × Own)) (true, a6) ⟨some1 h, (sr_ _ _ _)⟩ (.cons z (.cons z (.cons z .nil))))
      ·refine WL.ren 42 z (congrArg vB aR) (ug z z (wY (ym z) z (ug z z (wY (ym z) z (ug z z ?_)))))
       obtain ⟨ei, c6, h⟩ := bnd h
       refine WL.call (vals := [vi a2, vi a3]) kok15 z z (c_rollup_Window c6) ?_
       rintro eW eX ⟨rfl, c7⟩
       obtain ⟨ej, ez, eA, bF⟩ := adoptE a6 (fun k => 1) c7
       refine ug z z (wY (ym z) z (ug z z (wY (ym z) z (ug z z ?_))))
       obtain ⟨ek, c8, h⟩ := bnd h
       refine WL.call (vals := [vi a2, vi a3]) kok16 z z (c_ref36_Window c8) ?_
       rintro eY eZ ⟨rfl, c9⟩
       obtain ⟨em, eB, eC, bG⟩ := adoptE ej (fun k => 1) c9
       refine ug z z (wY (Y.neq_i z z) z (wY (Y.pick (b := false) z z) z ?_))
       exact nl (At.join (σ := (Bool × Own)) ((!decide (ei = ek)), em) ⟨some1 h, (tr_ (su_ bF z) (su_ bG z))⟩ (.cons z (.cons z (.cons z .nil))))
     ·rintro ⟨en, aS⟩ bs ⟨rfl, F⟩
      replace h := c5
      try dsimp only at h F
      refine (show WL _ _ _ _ _ [(9, pt aD 0), (10, vi H), (50, vB en)] _ from ?_)
      refine nl (th ?_)
      rcases cnd h with ⟨aT, h⟩ | ⟨aT, h⟩
      ·refine WC.condT' z aT (sq (rg (wY (ya z) z (nl (th (rt (At.thenR ?_)))))))
       obtain rfl := some1 h
       have da : Stp [13, 14] (Lg.O0 A) w aS bs := (tr_ (su_ t z) (tr_ (su_ n z) (tr_ (su_ d z) (tr_ (su_ m z) (tr_ (su_ p z) (tr_ (su_ o z) (tr_ (su_ j z) (tr_ (su_ l z) (tr_ (su_ G z) (tr_ (su_ q z) (tr_ (su_ r z) (tr_ (su_ D z) (su_ F z)))))))))))))
       exact At.res (.inl z) z (.tmp z .nil) ⟨z, (se_ da z z)⟩
      ·refine WC.condF' z aT (sk (th (sq (rg (wY (ym z) z (wY (Y.neq_i z z) z (wY (ym z) z ?_)))))))
       obtain ⟨eo, h, db⟩ := bnd h
       refine WL.cut 4 (σ := (Bool × Own)) (fun x w' => x.1 = eo ∧ Stp [] aS bs x.2 w') (fun x => [(57, vB x.1)]) ?_ ?_
       ·rcases cnd h with ⟨aU, h⟩ | ⟨aU, h⟩
        ·refine WL.ren 53 z (congrArg vB aU) (WL.gS z z z z (WL.gS z z z z (WL.gS z z z z (wY (Y.pick (b := true) z z) z ?_))))
         exact nl (At.join (σ := (Bool × Own)) (true, aS) ⟨some1 h, (sr_ _ _ _)⟩ (.cons z .nil))
        ·refine WL.ren 53 z (congrArg vB aU) (ug z z ?_)
         have dd := (bn.st D z).st F z
         refine wY (yL ty40 z z (dd.cells 0 (cp C (vl K L M) (vl Q S T) (vl U V W)) z) z) z (ug z z ?_)
         have df := (bo.i D z z).i F z z
         have dh := (bp.i D z z).i F z z
         have dj := (bq.i D z z).i F z z
         obtain ⟨ep, dk, h⟩ := bnd h
         refine WL.call (vals := [ag (cp C (vl K L M) (vl Q S T) (vl U V W))]) kok17 z z (c_point_Check (A := fun _ => True) (a0 := C) (Sl.all df) (Sl.all dh) (Sl.all dj) dk) ?_
         rintro e0 e1 ⟨rfl, dl⟩
         obtain ⟨er, eD, eE, bH⟩ := adoptE aS (fun k => 1) dl
         refine ug z z (wY (Y.eql_i z z) z (wY (Y.pick (b := false) z z) z ?_))
         exact nl (At.join (σ := (Bool × Own)) (decide (ep = 0), er) ⟨some1 h, (su_ bH z)⟩ (.cons z .nil))
       ·rintro ⟨es, et⟩ dm ⟨rfl, aW⟩
        replace h := db
        try dsimp only at h aW
        refine (show WL _ _ _ _ _ [(57, vB es)] _ from ?_)
        refine wY (ya z) z (nl (th (rt ?_)))
        obtain rfl := some1 h
        have dn : Stp [13, 14] (Lg.O0 A) w et dm := (tr_ (su_ t z) (tr_ (su_ n z) (tr_ (su_ d z) (tr_ (su_ m z) (tr_ (su_ p z) (tr_ (su_ o z) (tr_ (su_ j z) (tr_ (su_ l z) (tr_ (su_ G z) (tr_ (su_ q z) (tr_ (su_ r z) (tr_ (su_ D z) (tr_ (su_ F z) (su_ aW z))))))))))))))
        exact At.res (.inl z) z (.tmp z .nil) ⟨z, (se_ dn z z)⟩
end Go.Lg
