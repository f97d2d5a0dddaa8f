/- The walks of TocumTogether and of what it calls, printed by gen.py. -/
import Derived.Test.YtoiklipabcecfaaTgLgConvWTocumTogetherx2
set_option linter.unusedVariables false
namespace Go.Lg
open Go Go.Proofs
set_option maxRecDepth 100000
set_option maxHeartbeats 4000000
theorem c_ref08_Same {A : Nat → Prop} {v0_3 : Value} {v0_5 : Value} {a0 : api_Hist} {v1_3 : Value} {v1_5 : Value} {a1 : api_Hist} {w : World} (hs0_3 : Sl Rep.u w A v0_3 a0.Pos.Counts) (hs0_5 : Sl Rep.u w A v0_5 a0.Neg.Counts) (hs1_3 : Sl Rep.u w A v1_3 a1.Pos.Counts) (hs1_5 : Sl Rep.u w A v1_5 a1.Neg.Counts) {r0 : Bool} (h : ref08_Same a0 a1 = some r0) : Rets Try.prog 26 [ag [vi a0.Scale, vu a0.Zero, vi a0.Pos.Offset, v0_3, vi a0.Neg.Offset, v0_5], ag [vi a1.Scale, vu a1.Zero, vi a1.Pos.Offset, v1_3, vi a1.Neg.Offset, v1_5]] w (fun v w' => v = vB r0 ∧ Ext w w') := by
 unfold ref08_Same at h
 refine Rets.enter Try.func26 z z ?_
 have r : Sl Rep.u w (imm (Lg.O0 A)) v0_3 a0.Pos.Counts := (Sl.start hs0_3)
 have t : Sl Rep.u w (imm (Lg.O0 A)) v0_5 a0.Neg.Counts := (Sl.start hs0_5)
 have X : Sl Rep.u w (imm (Lg.O0 A)) v1_3 a1.Pos.Counts := (Sl.start hs1_3)
 have Z : Sl Rep.u w (imm (Lg.O0 A)) v1_5 a1.Neg.Counts := (Sl.start hs1_5)
 refine (show WC _ _ _ _ [(0, ag [vi a0.Scale, vu a0.Zero, vi a0.Pos.Offset, v0_3, vi a0.Neg.Offset, v0_5]), (1, ag [vi a1.Scale, vu a1.Zero, vi a1.Pos.Offset, v1_3, vi a1.Neg.Offset, v1_5])] _ from ?_)
 refine sq (rg ?_)
 have aa := h
 obtain ⟨C, D, E, rfl⟩ := r.shape
 have h := aa
 have ab := h
 obtain ⟨F, G, H, rfl⟩ := t.shape
 have h := ab
 refine WL.box (O := (Lg.O0 A)) 11 [vi a0.Scale, vu a0.Zero, vi a0.Pos.Offset, (Value.slice C D E), vi a0.Neg.Offset, (Value.slice F G H)] z z z ?_
 intro o aC aP d ac
 have I := X.i d z z
 have ad := h
 obtain ⟨J, K, L, rfl⟩ := I.shape
 have h := ad
 have M := Z.i d z z
 have ae := h
 obtain ⟨P, Q, R, rfl⟩ := M.shape
 have h := ae
 refine WL.box (O := aC) 12 [vi a1.Scale, vu a1.Zero, vi a1.Pos.Offset, (Value.slice J K L), vi a1.Neg.Offset, (Value.slice P Q R)] z z z ?_
 intro p S T a e
 refine wY (ya z) z (nl (th (sq (rg (wY (yf fo30_0 z) z ?_)))))
 have j := ac.st a z
 refine wY (yl ty3 z z (j.cell 0 _ z)) z (wY (yf fo30_0 z) z (wY (yl ty3 z z (e.cell 0 _ z)) z (wY (Y.eql_i z z) z (wY (ym z) z ?_))))
 refine WL.cut 6 (σ := Unit) (fun _ w' => T = w') (fun _ => [(2, pt o 0), (3, pt p 0), (16, vB ((decide (a0.Scale = a1.Scale)) && (decide (a0.Zero = a1.Zero))))]) ?_ ?_
 ·refine WL.part 10 z (fun l => ?_) (fun l => ?_)
  ·refine ug z z (wY (yf fo30_1 z) z (ug z z (wY (yl ty25 z z (j.cell 1 _ z)) z (ug z z (wY (yf fo30_1 z) z (ug z z (wY (yl ty25 z z (e.cell 1 _ z)) z (ug z z (wY (Y.eql_u z z) z ?_)))))))))
   refine wY (Y.pick (b := true) z z) z (WL.ren (v' := vB ((decide (a0.Scale = a1.Scale)) && (decide (a0.Zero = a1.Zero)))) 16 z (congrArg vB (andT l)) ?_)
   exact nl (At.join () z (.cons z (.cons z (.cons z .nil))))
  ·refine WL.gS z z z z (WL.gS z z z z (WL.gS z z z z (WL.gS z z z z (WL.gS z z z z (wY (Y.pick (b := false) z z) z (WL.ren (v' := vB ((decide (a0.Scale = a1.Scale)) && (decide (a0.Zero = a1.Zero)))) 16 z (congrArg vB (andF l)) ?_))))))
   exact nl (At.join () z (.cons z (.cons z (.cons z .nil))))
 ·rintro _ _ rfl
  refine (show WL _ _ _ _ _ [(2, pt o 0), (3, pt p 0), (16, vB ((decide (a0.Scale = a1.Scale)) && (decide (a0.Zero = a1.Zero))))] _ from ?_)
  refine wY (ym z) z ?_
  obtain ⟨aD, h, af⟩ := bnd h
  refine WL.cut 6 (σ := (Bool × Own)) (fun x w' => x.1 = aD ∧ Stp [] S T x.2 w') (fun x => [(2, pt o 0), (3, pt p 0), (23, vB x.1)]) ?_ ?_
  ·rcases cnd h with ⟨m, h⟩ | ⟨m, h⟩
   ·refine WL.ren 17 z (congrArg vB m) (ug z z (wY (yf fo30_2 z) z (ug z z (wY (yL ty28 z z (j.cells 2 [vi a0.Pos.Offset, (Value.slice C D E)] z) z) z (ug z z (wY (yf fo30_2 z) z (ug z z (wY (yL ty28 z z (e.cells 2 [vi a1.Pos.Offset, (Value.slice J K L)] z) z) z (ug z z ?_)))))))))
    have ah := r.i d z z
    have ai := ah.i a z z
    have aj := I.i a z z
    obtain ⟨aE, ak, h⟩ := bnd h
    refine WL.call (vals := [ag [vi a0.Pos.Offset, (Value.slice C D E)], ag [vi a1.Pos.Offset, (Value.slice J K L)]]) kok56 z z (c_ref08_SameSide (A := fun _ => True) (a0 := a0.Pos) (a1 := a1.Pos) (Sl.all ai) (Sl.all aj) ak) ?_
    rintro aQ aR ⟨rfl, al⟩
    obtain ⟨aF, aG, aH, V⟩ := adoptE S (fun k => 1) al
    refine wY (Y.pick (b := true) z z) z ?_
    exact nl (At.join (σ := (Bool × Own)) (aE, aF) ⟨some1 h, (su_ V z)⟩ (.cons z (.cons z (.cons z .nil))))
   ·refine WL.ren 17 z (congrArg vB m) (WL.gS z z z z (WL.gS z z z z (WL.gS z z z z (WL.gS z z z z (WL.gS z z z z (wY (Y.pick (b := false) z z) z ?_))))))
    exact nl (At.join (σ := (Bool × Own)) (false, S) ⟨some1 h, (sr_ _ _ _)⟩ (.cons z (.cons z (.cons z .nil))))
  ·rintro ⟨aI, U⟩ am ⟨rfl, c⟩
   replace h := af
   try dsimp only at h c
   refine (show WL _ _ _ _ _ [(2, pt o 0), (3, pt p 0), (23, vB aI)] _ from ?_)
   refine wY (ym z) z ?_
   obtain ⟨aJ, h, an⟩ := bnd h
   refine WL.cut 6 (σ := (Bool × Own)) (fun x w' => x.1 = aJ ∧ Stp [] U am x.2 w') (fun x => [(30, vB x.1)]) ?_ ?_
   ·rcases cnd h with ⟨n, h⟩ | ⟨n, h⟩
    ·refine WL.ren 24 z (congrArg vB n) (ug z z (wY (yf fo30_3 z) z (ug z z ?_)))
     have ao := j.st c z
     refine wY (yL ty28 z z (ao.cells 4 [vi a0.Neg.Offset, (Value.slice F G H)] z) z) z (ug z z (wY (yf fo30_3 z) z (ug z z ?_)))
     have ap := e.st c z
     refine wY (yL ty28 z z (ap.cells 4 [vi a1.Neg.Offset, (Value.slice P Q R)] z) z) z (ug z z ?_)
     have aq := t.i d z z
     have ar := aq.i a z z
     have au := ar.i c z z
     have av := M.i a z z
     have aw := av.i c z z
     obtain ⟨aK, ax, h⟩ := bnd h
     refine WL.call (vals := [ag [vi a0.Neg.Offset, (Value.slice F G H)], ag [vi a1.Neg.Offset, (Value.slice P Q R)]]) kok56 z z (c_ref08_SameSide (A := fun _ => True) (a0 := a0.Neg) (a1 := a1.Neg) (Sl.all au) (Sl.all aw) ax) ?_
     rintro aS aT ⟨rfl, ay⟩
     obtain ⟨aL, aM, aN, W⟩ := adoptE U (fun k => 1) ay
     refine wY (Y.pick (b := true) z z) z ?_
     exact nl (At.join (σ := (Bool × Own)) (aK, aL) ⟨some1 h, (su_ W z)⟩ (.cons z .nil))
    ·refine WL.ren 24 z (congrArg vB n) (WL.gS z z z z (WL.gS z z z z (WL.gS z z z z (WL.gS z z z z (WL.gS z z z z (wY (Y.pick (b := false) z z) z ?_))))))
     exact nl (At.join (σ := (Bool × Own)) (false, U) ⟨some1 h, (sr_ _ _ _)⟩ (.cons z .nil))
   ·rintro ⟨x64, aO⟩ az ⟨rfl, q⟩
    replace h := an
    try dsimp only at h q
    refine (show WL _ _ _ _ _ [(30, vB x64)] _ from ?_)
    refine wY (ya z) z (nl (th (rt ?_)))
    obtain rfl := some1 h
    have aA : Stp [] (Lg.O0 A) w aO az := (tr_ (su_ d z) (tr_ (su_ a z) (tr_ (su_ c z) (su_ q z))))
    exact At.res (.inl z) z (.tmp z .nil) ⟨z, (se_ aA z z)⟩
theorem c_law16_TocumTogether {A : Nat → Prop} {v0_3 : Value} {v0_5 : Value} {a0 : api_Hist} {v1_3 : Value} {v1_5 : Value} {a1 : api_Hist} {a2 : Int} {w : World} (hs0_3 : Sl Rep.u w A v0_3 a0.Pos.Counts) (hs0_5 : Sl Rep.u w A v0_5 a0.Neg.Counts) (hs1_3 : Sl Rep.u w A v1_3 a1.Pos.Counts) (hs1_5 : Sl Rep.u w A v1_5 a1.Neg.Counts) {r0 : Bool} (h : law16_TocumTogether a0 a1 a2 = some r0) : Rets Try.prog 6 [ag [vi a0.Scale, vu a0.Zero, vi a0.Pos.Offset, v0_3, vi a0.Neg.Offset, v0_5], ag [vi a1.Scale, vu a1.Zero, vi a1.Pos.Offset, v1_3, vi a1.Neg.Offset, v1_5], vi a2] w (fun v w' => v = vB r0 ∧ Ext w w') := by
 unfold law16_TocumTogether at h
 refine Rets.enter Try.func6 z z ?_
 have bk : Sl Rep.u w (imm (Lg.O0 A)) v0_3 a0.Pos.Counts := (Sl.start hs0_3)
 have bl : Sl Rep.u w (imm (Lg.O0 A)) v0_5 a0.Neg.Counts := (Sl.start hs0_5)
 have dj : Sl Rep.u w (imm (Lg.O0 A)) v1_3 a1.Pos.Counts := (Sl.start hs1_3)
 have dk : Sl Rep.u w (imm (Lg.O0 A)) v1_5 a1.Neg.Counts := (Sl.start hs1_5)
 refine (show WC _ _ _ _ [(0, ag [vi a0.Scale, vu a0.Zero, vi a0.Pos.Offset, v0_3, vi a0.Neg.Offset, v0_5]), (1, ag [vi a1.Scale, vu a1.Zero, vi a1.Pos.Offset, v1_3, vi a1.Neg.Offset, v1_5]), (2, vi a2)] _ from ?_)
 refine sq (rg ?_)
 have dl := h
 obtain ⟨Q, R, S, rfl⟩ := bk.shape
 have h := dl
 have dm := h
 obtain ⟨T, U, V, rfl⟩ := bl.shape
 have h := dm
 refine WL.box (O := (Lg.O0 A)) 11 [vi a0.Scale, vu a0.Zero, vi a0.Pos.Offset, (Value.slice Q R S), vi a0.Neg.Offset, (Value.slice T U V)] z z z ?_
 intro aS en eP D dn
 have aJ := dj.i D z z
 have dp := h
 obtain ⟨W, X, Z, rfl⟩ := aJ.shape
 have h := dp
 have aK := dk.i D z z
 have dr := h
 obtain ⟨aa, ab, ac, rfl⟩ := aK.shape
 have h := dr
 refine WL.box (O := en) 12 [vi a1.Scale, vu a1.Zero, vi a1.Pos.Offset, (Value.slice W X Z), vi a1.Neg.Offset, (Value.slice aa ab ac)] z z z ?_
 intro aT eo eQ q bm
 refine wY (ya z) z (nl (th (sq (sq (rg ?_)))))
 obtain ⟨eZ, ds, h⟩ := bnd h
 refine WL.call (vals := []) kok16 z z (c_law16_awake ds) ?_
 rintro eR dt ⟨rfl, du⟩
 obtain ⟨dh, ep, er, m⟩ := adoptE eo (fun k => 1) du
 refine wY (Y.not z) z (nl (th ?_))
 rcases cnd h with ⟨aL, h⟩ | ⟨aL, h⟩
 ·refine WC.condT' z aL (sq (rg (wY (ya z) z (nl (th (rt (At.thenR ?_)))))))
  obtain rfl := some1 h
  have dw : Stp [] (Lg.O0 A) w dh dt := (tr_ (su_ D z) (tr_ (su_ q z) (su_ m z)))
  exact At.res (.inl z) z (.tmp z .nil) ⟨z, (se_ dw z z)⟩
 ·refine WC.condF' z aL (sk (th (sq (sq (rg ?_)))))
  have dx := dn.st q z
  have bn := dx.st m z
  refine wY (yL ty30 z z (bn.cells 0 [vi a0.Scale, vu a0.Zero, vi a0.Pos.Offset, (Value.slice Q R S), vi a0.Neg.Offset, (Value.slice T U V)] z) z) z ?_
  have dy := bk.i D z z
  have dz := dy.i q z z
  have bo := dz.i m z z
  have dA := bl.i D z z
  have dB := dA.i q z z
  have bp := dB.i m z z
  obtain ⟨e0, dC, h⟩ := bnd h
  refine WL.call (vals := [ag [vi a0.Scale, vu a0.Zero, vi a0.Pos.Offset, (Value.slice Q R S), vi a0.Neg.Offset, (Value.slice T U V)]]) kok18 z z (c_ref08_Light (A := fun _ => True) (a0 := a0) (Sl.all bo) (Sl.all bp) dC) ?_
  rintro eS dD ⟨rfl, dE⟩
  obtain ⟨bq, es, et, p⟩ := adoptE dh (fun k => 1) dE
  refine wY (Y.not z) z (wY (ym z) z ?_)
  obtain ⟨eu, h, dF⟩ := bnd h
  refine WL.cut 4 (σ := (Bool × Own)) (fun x w' => x.1 = eu ∧ Stp [] bq dD x.2 w') (fun x => [(2, vi a2), (3, pt aS 0), (4, pt aT 0), (26, vB x.1)]) ?_ ?_
  ·rcases cnd h with ⟨aM, h⟩ | ⟨aM, h⟩
   ·refine WL.ren 22 z (congrArg vB aM) (WL.gS z z z z (WL.gS z z z z (WL.gS z z z z (wY (Y.pick (b := true) z z) z ?_))))
    exact nl (At.join (σ := (Bool × Own)) (true, bq) ⟨some1 h, (sr_ _ _ _)⟩ (.cons z (.cons z (.cons z (.cons z .nil)))))
   ·refine WL.ren 22 z (congrArg vB aM) (ug z z ?_)
    have dG := bm.st m z
    have dH := dG.st p z
    refine wY (yL ty30 z z (dH.cells 0 [vi a1.Scale, vu a1.Zero, vi a1.Pos.Offset, (Value.slice W X Z), vi a1.Neg.Offset, (Value.slice aa ab ac)] z) z) z (ug z z ?_)
    have dI := aJ.i q z z
    have dJ := dI.i m z z
    have dK := dJ.i p z z
    have dL := aK.i q z z
    have dM := dL.i m z z
    have dN := dM.i p z z
    obtain ⟨ew, dO, h⟩ := bnd h
    refine WL.call (vals := [ag [vi a1.Scale, vu a1.Zero, vi a1.Pos.Offset, (Value.slice W X Z), vi a1.Neg.Offset, (Value.slice aa ab ac)]]) kok18 z z (c_ref08_Light (A := fun _ => True) (a0 := a1) (Sl.all dK) (Sl.all dN) dO) ?_
    rintro eT eU ⟨rfl, dP⟩
    obtain ⟨ex, ey, ez, bt⟩ := adoptE bq (fun k => 1) dP
    refine ug z z (wY (Y.not z) z (wY (Y.pick (b := false) z z) z ?_))
    exact nl (At.join (σ := (Bool × Own)) ((!ew), ex) ⟨some1 h, (su_ bt z)⟩ (.cons z (.cons z (.cons z (.cons z .nil)))))
  ·rintro ⟨eA, di⟩ dQ ⟨rfl, r⟩
   replace h := dF
   try dsimp only at h r
   refine (show WL _ _ _ _ _ [(2, vi a2), (3, pt aS 0), (4, pt aT 0), (26, vB eA)] _ from ?_)
   refine nl (th ?_)
   rcases cnd h with ⟨aN, h⟩ | ⟨aN, h⟩
   ·refine WC.condT' z aN (sq (rg (wY (ya z) z (nl (th (rt (At.thenR ?_)))))))
    obtain rfl := some1 h
    have dR : Stp [] (Lg.O0 A) w di dQ := (tr_ (su_ D z) (tr_ (su_ q z) (tr_ (su_ m z) (tr_ (su_ p z) (su_ r z)))))
    exact At.res (.inl z) z (.tmp z .nil) ⟨z, (se_ dR z z)⟩
   ·refine WC.condF' z aN (sk (th (sq (rg ?_))))
    have dS := bn.st p z
    have br := dS.st r z
    refine wY (yL ty30 z z (br.cells 0 [vi a0.Scale, vu a0.Zero, vi a0.Pos.Offset, (Value.slice Q R S), vi a0.Neg.Offset, (Value.slice T U V)] z) z) z ?_
    have dT := bm.st m z
    have bu := dT.st p z
    have aU := bu.st r z
    refine wY (yL ty30 z z (aU.cells 0 [vi a1.Scale, vu a1.Zero, vi a1.Pos.Offset, (Value.slice W X Z), vi a1.Neg.Offset, (Value.slice aa ab ac)] z) z) z (wY (ym z) z ?_)
    have bw := bo.i p z z
    have aW := bw.i r z z
    have bx := bp.i p z z
    have aX := bx.i r z z
    have bz := aJ.i q z z
    have bA := bz.i m z z
    have bB := bA.i p z z
    have aY := bB.i r z z
    have bC := aK.i q z z
    have bD := bC.i m z z
    have bE := bD.i p z z
    have aZ := bE.i r z z
    obtain ⟨⟨a, ae⟩, bF, h⟩ := bnd h
    refine WL.call (vals := [ag [vi a0.Scale, vu a0.Zero, vi a0.Pos.Offset, (Value.slice Q R S), vi a0.Neg.Offset, (Value.slice T U V)], ag [vi a1.Scale, vu a1.Zero, vi a1.Pos.Offset, (Value.slice W X Z), vi a1.Neg.Offset, (Value.slice aa ab ac)], vi a2]) kok24 z z (c_tocum_Together (A := fun _ => True) (a0 := a0) (a1 := a1) (Sl.all aW) (Sl.all aX) (Sl.all aY) (Sl.all aZ) bF) ?_
    rintro eB a3 ⟨dU, dV, rfl, bG, dW, dX⟩
    obtain ⟨aO, ea, ah, t⟩ := adoptE di (fun k => 1) bG
    have bH : Sl Rep.u a3 (frs aO) dU a.Pos.Counts := Sl.adoptF dW (fun k hk => ⟨hk, z⟩) ah
    have bI : Sl Rep.u a3 (frs aO) dV a.Neg.Counts := Sl.adoptF dX (fun k hk => ⟨hk, z⟩) ah
    refine wY (ym z) z (wY (yx z z) z (wY (yx z z) z (WL.alloc (O := aO) 13 [vi 0, vu 0, vi 0, Value.slice none 0 0, vi 0, Value.slice none 0 0] ty30 z z ?_)))
    intro H dY eC n bJ
    have a4 := bH.f n z
    have bK := h
    obtain ⟨I, J, K, rfl⟩ := a4.shape
    have h := bK
    have a5 := bI.f n z
    have bL := h
    obtain ⟨L, M, P, rfl⟩ := a5.shape
    have h := bL
    refine WL.store (v := ag [vi a.Scale, vu a.Zero, vi a.Pos.Offset, (Value.slice I J K), vi a.Neg.Offset, (Value.slice L M P)]) (cells' := [vi a.Scale, vu a.Zero, vi a.Pos.Offset, (Value.slice I J K), vi a.Neg.Offset, (Value.slice L M P)]) ty30 z z bJ z (le_ z) z z ?_
    intro eD o bM
    refine wY (ya z) z (nl (th (sq (rg ?_))))
    have bO := br.st t z
    have bP := bO.st n z
    have a6 := bP.st o z
    refine wY (yL ty30 z z (a6.cells 0 [vi a0.Scale, vu a0.Zero, vi a0.Pos.Offset, (Value.slice Q R S), vi a0.Neg.Offset, (Value.slice T U V)] z) z) z ?_
    have bQ := aU.st t z
    have bR := bQ.st n z
    have a7 := bR.st o z
    refine wY (yL ty30 z z (a7.cells 0 [vi a1.Scale, vu a1.Zero, vi a1.Pos.Offset, (Value.slice W X Z), vi a1.Neg.Offset, (Value.slice aa ab ac)] z) z) z (wY (ym z) z ?_)
    have bS := aW.i t z z
    have bT := bS.i n z z
    have a8 := bT.i o z z
    have bU := aX.i t z z
    have bW := bU.i n z z
    have a9 := bW.i o z z
    have bX := aY.i t z z
    have bY := bX.i n z z
    have ba := bY.i o z z
    have bZ := aZ.i t z z
    have b0 := bZ.i n z z
    have bb := b0.i o z z
    obtain ⟨⟨e, aj⟩, b1, h⟩ := bnd h
    refine WL.call (vals := [ag [vi a0.Scale, vu a0.Zero, vi a0.Pos.Offset, (Value.slice Q R S), vi a0.Neg.Offset, (Value.slice T U V)], ag [vi a1.Scale, vu a1.Zero, vi a1.Pos.Offset, (Value.slice W X Z), vi a1.Neg.Offset, (Value.slice aa ab ac)], vi a2]) kok25 z z (c_ref16_Together (A := fun _ => True) (a0 := a0) (a1 := a1) (Sl.all a8) (Sl.all a9) (Sl.all ba) (Sl.all bb) b1) ?_
    rintro eE bc ⟨dZ, d0, rfl, b2, d1, d2⟩
    obtain ⟨aP, eb, ai, j⟩ := adoptE dY (fun k => 1) b2
    have b3 : Sl Rep.u bc (frs aP) dZ e.Pos.Counts := Sl.adoptF d1 (fun k hk => ⟨hk, z⟩) ai
    have b4 : Sl Rep.u bc (frs aP) d0 e.Neg.Counts := Sl.adoptF d2 (fun k hk => ⟨hk, z⟩) ai
    refine wY (ym z) z (wY (yx z z) z (wY (yx z z) z (WL.alloc (O := aP) 14 [vi 0, vu 0, vi 0, Value.slice none 0 0, vi 0, Value.slice none 0 0] ty30 z z ?_)))
    intro eV d3 eF c b5
    have bd := b3.f c z
    have b6 := h
    obtain ⟨ak, al, am, rfl⟩ := bd.shape
    have h := b6
    have bf := b4.f c z
    have b7 := h
    obtain ⟨an, ao, ap, rfl⟩ := bf.shape
    have h := b7
    refine WL.store (v := ag [vi e.Scale, vu e.Zero, vi e.Pos.Offset, (Value.slice ak al am), vi e.Neg.Offset, (Value.slice an ao ap)]) (cells' := [vi e.Scale, vu e.Zero, vi e.Pos.Offset, (Value.slice ak al am), vi e.Neg.Offset, (Value.slice an ao ap)]) ty30 z z b5 z (le_ z) z z ?_
    intro eG d b8
    refine wY (ya z) z (nl (th (sq (sq (rg ?_)))))
    have b9 := bM.st j z
    have ca := b9.st c z
    have bg := ca.st d z
    refine wY (yL ty30 z z (bg.cells 0 [vi a.Scale, vu a.Zero, vi a.Pos.Offset, (Value.slice I J K), vi a.Neg.Offset, (Value.slice L M P)] z) z) z (wY (yL ty30 z z (b8.cells 0 [vi e.Scale, vu e.Zero, vi e.Pos.Offset, (Value.slice ak al am), vi e.Neg.Offset, (Value.slice an ao ap)] z) z) z ?_)
    have cb := a4.f o z
    have cc := cb.f j z
    have cd := cc.f c z
    have bh := cd.f d z
    have ce := a5.f o z
    have cf := ce.f j z
    have cg := cf.f c z
    have bi := cg.f d z
    have ch := bd.f d z
    have ci := bf.f d z
    obtain ⟨aq, cj, h⟩ := bnd h
    refine WL.call (vals := [ag [vi a.Scale, vu a.Zero, vi a.Pos.Offset, (Value.slice I J K), vi a.Neg.Offset, (Value.slice L M P)], ag [vi e.Scale, vu e.Zero, vi e.Pos.Offset, (Value.slice ak al am), vi e.Neg.Offset, (Value.slice an ao ap)]]) kok26 z z (c_ref08_Same (A := fun _ => True) (a0 := a) (a1 := e) (Sl.all bh) (Sl.all bi) (Sl.all ch) (Sl.all ci) cj) ?_
    rintro eH ar ⟨rfl, ck⟩
    obtain ⟨aQ, ec, ed, l⟩ := adoptE d3 (fun k => 1) ck
    refine wY (Y.not z) z (wY (ym z) z ?_)
    refine WL.cut 4 (σ := Unit) (fun _ w' => ar = w') (fun _ => [(2, vi a2), (3, pt aS 0), (4, pt aT 0), (7, pt H 0), (8, vB ae), (49, vB ((!aq) || (!decide (ae = aj))))]) ?_ ?_
    ·refine WL.part 45 z (fun au => ?_) (fun au => ?_)
     ·refine WL.gS z z z z (WL.gS z z z z (WL.gS z z z z (wY (Y.pick (b := true) z z) z (WL.ren (v' := vB ((!aq) || (!decide (ae = aj)))) 49 z (congrArg vB (orT au)) ?_))))
      exact nl (At.join () z (.cons z (.cons z (.cons z (.cons z (.cons z (.cons z .nil)))))))
     ·refine ug z z (wY (ym z) z (ug z z (wY (ym z) z (ug z z (wY (Y.neqB z z ty4.u) z (wY (Y.pick (b := false) z z) z (WL.ren (v' := vB ((!aq) || (!decide (ae = aj)))) 49 z (congrArg vB (orF au)) ?_)))))))
      exact nl (At.join () z (.cons z (.cons z (.cons z (.cons z (.cons z (.cons z .nil)))))))
    ·rintro _ _ rfl
     refine (show WL _ _ _ _ _ [(2, vi a2), (3, pt aS 0), (4, pt aT 0), (7, pt H 0), (8, vB ae), (49, vB ((!aq) || (!decide (ae = aj))))] _ from ?_)
     refine nl (th ?_)
     rcases cnd h with ⟨av, h⟩ | ⟨av, h⟩
     ·refine WC.condT' z av (sq (rg (wY (ya z) z (nl (th (rt (At.thenR ?_)))))))
      obtain rfl := some1 h
      have cl : Stp [13, 14] (Lg.O0 A) w aQ ar := (tr_ (su_ D z) (tr_ (su_ q z) (tr_ (su_ m z) (tr_ (su_ p z) (tr_ (su_ r z) (tr_ (su_ t z) (tr_ (su_ n z) (tr_ (su_ o z) (tr_ (su_ j z) (tr_ (su_ c z) (tr_ (su_ d z) (su_ l z))))))))))))
      exact At.res (.inl z) z (.tmp z .nil) ⟨z, (se_ cl z z)⟩
     ·refine WC.condF' z av (sk (th (sq (sq (rg (wY (ym z) z (wY (Y.not z) z (nl (th ?_)))))))))
      rcases cnd h with ⟨aw, h⟩ | ⟨aw, h⟩
      ·refine WC.condT' z aw (sq (rg (wY (ya z) z (nl (th (rt (At.thenR ?_)))))))
       obtain rfl := some1 h
       have cm : Stp [13, 14] (Lg.O0 A) w aQ ar := (tr_ (su_ D z) (tr_ (su_ q z) (tr_ (su_ m z) (tr_ (su_ p z) (tr_ (su_ r z) (tr_ (su_ t z) (tr_ (su_ n z) (tr_ (su_ o z) (tr_ (su_ j z) (tr_ (su_ c z) (tr_ (su_ d z) (su_ l z))))))))))))
       exact At.res (.inl z) z (.tmp z .nil) ⟨z, (se_ cm z z)⟩
      ·refine WC.condF' z aw (sk (th (sq (rg ?_))))
       have cn := a6.st j z
       have co := cn.st c z
       have cp := co.st d z
       have cq := cp.st l z
       refine wY (yL ty30 z z (cq.cells 0 [vi a0.Scale, vu a0.Zero, vi a0.Pos.Offset, (Value.slice Q R S), vi a0.Neg.Offset, (Value.slice T U V)] z) z) z ?_
       have cr := a8.i j z z
       have cs := cr.i c z z
       have ct := cs.i d z z
       have cu := ct.i l z z
       have cv := a9.i j z z
       have cw := cv.i c z z
       have cx := cw.i d z z
       have cy := cx.i l z z
       obtain ⟨⟨ax, eW⟩, cz, h⟩ := bnd h
       refine WL.call (vals := [ag [vi a0.Scale, vu a0.Zero, vi a0.Pos.Offset, (Value.slice Q R S), vi a0.Neg.Offset, (Value.slice T U V)]]) kok27 z z (c_hist_Total (A := fun _ => True) (a0 := a0) (Sl.all cu) (Sl.all cy) cz) ?_
       rintro eI eJ ⟨rfl, cA⟩
       obtain ⟨d4, ee, ef, E⟩ := adoptE aQ (fun k => 1) cA
       refine wY (ym z) z (wY (yx z z) z (wY (yx z z) z (wY (ya z) z (wY (ya z) z (nl (th (sq (rg ?_))))))))
       have cC := a7.st j z
       have cD := cC.st c z
       have cE := cD.st d z
       have cF := cE.st l z
       have cG := cF.st E z
       refine wY (yL ty30 z z (cG.cells 0 [vi a1.Scale, vu a1.Zero, vi a1.Pos.Offset, (Value.slice W X Z), vi a1.Neg.Offset, (Value.slice aa ab ac)] z) z) z ?_
       have cH := ba.i j z z
       have cI := cH.i c z z
       have cJ := cI.i d z z
       have cK := cJ.i l z z
       have cL := cK.i E z z
       have cM := bb.i j z z
       have cN := cM.i c z z
       have cO := cN.i d z z
       have cP := cO.i l z z
       have cQ := cP.i E z z
       obtain ⟨⟨ay, eX⟩, cR, h⟩ := bnd h
       refine WL.call (vals := [ag [vi a1.Scale, vu a1.Zero, vi a1.Pos.Offset, (Value.slice W X Z), vi a1.Neg.Offset, (Value.slice aa ab ac)]]) kok27 z z (c_hist_Total (A := fun _ => True) (a0 := a1) (Sl.all cL) (Sl.all cQ) cR) ?_
       rintro eK eL ⟨rfl, cS⟩
       obtain ⟨d5, eg, eh, ad⟩ := adoptE d4 (fun k => 1) cS
       refine wY (ym z) z (wY (yx z z) z (wY (yx z z) z (wY (ya z) z (wY (ya z) z (nl (th (sq (rg ?_))))))))
       have cT := bg.st l z
       have cU := cT.st E z
       have af := cU.st ad z
       refine wY (yL ty30 z z (af.cells 0 [vi a.Scale, vu a.Zero, vi a.Pos.Offset, (Value.slice I J K), vi a.Neg.Offset, (Value.slice L M P)] z) z) z ?_
       have cV := bh.f l z
       have cW := cV.f E z
       have az := cW.f ad z
       have cX := bi.f l z
       have cY := cX.f E z
       have aA := cY.f ad z
       obtain ⟨⟨aC, aD⟩, cZ, h⟩ := bnd h
       refine WL.call (vals := [ag [vi a.Scale, vu a.Zero, vi a.Pos.Offset, (Value.slice I J K), vi a.Neg.Offset, (Value.slice L M P)]]) kok27 z z (c_hist_Total (A := fun _ => True) (a0 := a) (Sl.all az) (Sl.all aA) cZ) ?_
       rintro eM bj ⟨rfl, c0⟩
       obtain ⟨aR, ei, ej, C⟩ := adoptE d5 (fun k => 1) c0
       refine wY (ym z) z (wY (yx z z) z (wY (yx z z) z (wY (ya z) z (wY (ya z) z (nl (th (sq (rg (wY (ym z) z ?_)))))))))
       refine wY (ym z) z ?_
       refine WL.cut 6 (σ := Unit) (fun _ w' => bj = w') (fun _ => [(2, vi a2), (7, pt H 0), (74, vB (aD && (decide (aC = (ax + ay)))))]) ?_ ?_
       ·refine WL.part 68 z (fun aE => ?_) (fun aE => ?_)
        ·refine ug z z (wY (ym z) z (ug z z (wY (ym z) z (ug z z (wY (ym z) z (ug z z (wY (Y.add_u z z) z (ug z z (wY (Y.eql_u z z) z ?_)))))))))
         refine wY (Y.pick (b := true) z z) z (WL.ren (v' := vB (aD && (decide (aC = (ax + ay))))) 74 z (congrArg vB (andT aE)) ?_)
         exact nl (At.join () z (.cons z (.cons z (.cons z .nil))))
        ·refine WL.gS z z z z (WL.gS z z z z (WL.gS z z z z (WL.gS z z z z (WL.gS z z z z (wY (Y.pick (b := false) z z) z (WL.ren (v' := vB (aD && (decide (aC = (ax + ay))))) 74 z (congrArg vB (andF aE)) ?_))))))
         exact nl (At.join () z (.cons z (.cons z (.cons z .nil))))
       ·rintro _ _ rfl
        refine (show WL _ _ _ _ _ [(2, vi a2), (7, pt H 0), (74, vB (aD && (decide (aC = (ax + ay)))))] _ from ?_)
        refine wY (ym z) z ?_
        obtain ⟨d6, h, c1⟩ := bnd h
        refine WL.cut 4 (σ := (Bool × Own)) (fun x w' => x.1 = d6 ∧ Stp [] aR bj x.2 w') (fun x => [(2, vi a2), (7, pt H 0), (79, vB x.1)]) ?_ ?_
        ·rcases cnd h with ⟨aF, h⟩ | ⟨aF, h⟩
         ·refine WL.ren 75 z (congrArg vB aF) (ug z z ?_)
          have c2 := af.st C z
          refine wY (yL ty30 z z (c2.cells 0 [vi a.Scale, vu a.Zero, vi a.Pos.Offset, (Value.slice I J K), vi a.Neg.Offset, (Value.slice L M P)] z) z) z (ug z z ?_)
          have c3 := az.f C z
          have c4 := aA.f C z
          obtain ⟨d7, c5, h⟩ := bnd h
          refine WL.call (vals := [ag [vi a.Scale, vu a.Zero, vi a.Pos.Offset, (Value.slice I J K), vi a.Neg.Offset, (Value.slice L M P)]]) kok28 z z (c_hist_Check (A := fun _ => True) (a0 := a) (Sl.all c3) (Sl.all c4) c5) ?_
          rintro eN eO ⟨rfl, c6⟩
          obtain ⟨d8, ek, em, bs⟩ := adoptE aR (fun k => 1) c6
          refine ug z z (wY (Y.eql_i z z) z (wY (Y.pick (b := true) z z) z ?_))
          exact nl (At.join (σ := (Bool × Own)) (decide (d7 = 0), d8) ⟨some1 h, (su_ bs z)⟩ (.cons z (.cons z (.cons z .nil))))
         ·refine WL.ren 75 z (congrArg vB aF) (WL.gS z z z z (WL.gS z z z z (WL.gS z z z z (wY (Y.pick (b := false) z z) z ?_))))
          exact nl (At.join (σ := (Bool × Own)) (false, aR) ⟨some1 h, (sr_ _ _ _)⟩ (.cons z (.cons z (.cons z .nil))))
        ·rintro ⟨G, d9⟩ aG ⟨rfl, F⟩
         replace h := c1
         try dsimp only at h F
         refine (show WL _ _ _ _ _ [(2, vi a2), (7, pt H 0), (79, vB G)] _ from ?_)
         refine wY (ym z) z ?_
         refine WL.cut 7 (σ := Unit) (fun _ w' => aG = w') (fun _ => [(2, vi a2), (7, pt H 0), (87, vB (G && (decide ((a.Pos.Counts.length : Int) ≤ a2))))]) ?_ ?_
         ·refine WL.part 80 z (fun aH => ?_) (fun aH => ?_)
          ·refine ug z z (wY (yf fo30_2 z) z (ug z z (wY (yf fo28_1 z) z (ug z z ?_))))
           have c7 := af.st C z
           have c8 := c7.st F z
           refine wY (yl ty26 z z (c8.cell 3 _ z)) z (ug z z ?_)
           have c9 := az.f C z
           have da := c9.f F z
           refine wY (Y.len ty26 z da) z (ug z z (wY (ym z) z (ug z z (wY (Y.leq_i z z) z (wY (Y.pick (b := true) z z) z (WL.ren (v' := vB (G && (decide ((a.Pos.Counts.length : Int) ≤ a2)))) 87 z (congrArg vB (andT aH)) ?_))))))
           exact nl (At.join () z (.cons z (.cons z (.cons z .nil))))
          ·refine WL.gS z z z z (WL.gS z z z z (WL.gS z z z z (WL.gS z z z z (WL.gS z z z z (WL.gS z z z z (wY (Y.pick (b := false) z z) z (WL.ren (v' := vB (G && (decide ((a.Pos.Counts.length : Int) ≤ a2)))) 87 z (congrArg vB (andF aH)) ?_)))))))
           exact nl (At.join () z (.cons z (.cons z (.cons z .nil))))
         ·rintro _ _ rfl
          refine (show WL _ _ _ _ _ [(2, vi a2), (7, pt H 0), (87, vB (G && (decide ((a.Pos.Counts.length : Int) ≤ a2))))] _ from ?_)
          refine wY (ym z) z ?_
          refine WL.cut 7 (σ := Unit) (fun _ w' => aG = w') (fun _ => [(95, vB ((G && (decide ((a.Pos.Counts.length : Int) ≤ a2))) && (decide ((a.Neg.Counts.length : Int) ≤ a2))))]) ?_ ?_
          ·refine WL.part 88 z (fun aI => ?_) (fun aI => ?_)
           ·refine ug z z (wY (yf fo30_3 z) z (ug z z (wY (yf fo28_1 z) z (ug z z ?_))))
            have db := af.st C z
            have dc := db.st F z
            refine wY (yl ty26 z z (dc.cell 5 _ z)) z (ug z z ?_)
            have dd := aA.f C z
            have de := dd.f F z
            refine wY (Y.len ty26 z de) z (ug z z (wY (ym z) z (ug z z (wY (Y.leq_i z z) z (wY (Y.pick (b := true) z z) z (WL.ren (v' := vB ((G && (decide ((a.Pos.Counts.length : Int) ≤ a2))) && (decide ((a.Neg.Counts.length : Int) ≤ a2)))) 95 z (congrArg vB (andT aI)) ?_))))))
            exact nl (At.join () z (.cons z .nil))
           ·refine WL.gS z z z z (WL.gS z z z z (WL.gS z z z z (WL.gS z z z z (WL.gS z z z z (WL.gS z z z z (wY (Y.pick (b := false) z z) z (WL.ren (v' := vB ((G && (decide ((a.Pos.Counts.length : Int) ≤ a2))) && (decide ((a.Neg.Counts.length : Int) ≤ a2)))) 95 z (congrArg vB (andF aI)) ?_)))))))
            exact nl (At.join () z (.cons z .nil))
          ·rintro _ _ rfl
           refine (show WL _ _ _ _ _ [(95, vB ((G && (decide ((a.Pos.Counts.length : Int) ≤ a2))) && (decide ((a.Neg.Counts.length : Int) ≤ a2))))] _ from ?_)
           obtain ⟨eY, df, h⟩ := lt1 h
           refine WL.yE (ya z) (congrArg vB df.symm) z (nl (th (rt ?_)))
           obtain rfl := some1 h
           have dg : Stp [13, 14] (Lg.O0 A) w d9 aG := (tr_ (su_ D z) (tr_ (su_ q z) (tr_ (su_ m z) (tr_ (su_ p z) (tr_ (su_ r z) (tr_ (su_ t z) (tr_ (su_ n z) (tr_ (su_ o z) (tr_ (su_ j z) (tr_ (su_ c z) (tr_ (su_ d z) (tr_ (su_ l z) (tr_ (su_ E z) (tr_ (su_ ad z) (tr_ (su_ C z) (su_ F z))))))))))))))))
           exact At.res (.inl z) z (.tmp z .nil) ⟨z, (se_ dg z z)⟩
end Go.Lg
