/- The walks of RelabelParts and of what it calls, printed by gen.py. -/
import Derived.Test.YtihlealbhlgikaaDoorRpLgReWRelabelPartsx2
set_option linter.unusedVariables false
namespace Go.Lg
open Go Go.Proofs
set_option maxRecDepth 100000
set_option maxHeartbeats 4000000
theorem c_law33_RelabelParts {A : Nat → Prop} {a0 : List api_Rule} {v0 : Value} {a1 : Int} {v2_1 : Value} {v2_13 : Value} {v2_15 : Value} {a2 : api_Point} {w : World} (hs0 : Sl rep_api_Rule w A v0 a0) (hs2_1 : Sl rep_api_Pair w A v2_1 a2.Attrs) (hs2_13 : Sl Rep.u w A v2_13 a2.Hist.Pos.Counts) (hs2_15 : Sl Rep.u w A v2_15 a2.Hist.Neg.Counts) (hG0 : CellsAt w 0 0 [vi 0, vi 0]) (hGA0 : A 0) {r0 : Bool} (h : law33_RelabelParts a0 a1 a2 = some r0) : Rets Tryd.prog 5 [v0, vi a1, ag (cp a2 v2_1 v2_13 v2_15)] w (fun v w' => v = vB r0 ∧ Ext w w') := by
 unfold law33_RelabelParts at h
 refine Rets.enter Tryd.func5 z z ?_
 have gn : Sl rep_api_Rule w (imm (Lg.O0 A)) v0 a0 := (Sl.start hs0)
 have br : Sl rep_api_Pair w (imm (Lg.O0 A)) v2_1 a2.Attrs := (Sl.start hs2_1)
 have bs : Sl Rep.u w (imm (Lg.O0 A)) v2_13 a2.Hist.Pos.Counts := (Sl.start hs2_13)
 have bt : Sl Rep.u w (imm (Lg.O0 A)) v2_15 a2.Hist.Neg.Counts := (Sl.start hs2_15)
 have gp : CAt [0, 1] (Lg.O0 A) w 0 0 [vi 0, vi 0] := CAt.glob hG0 (if_pos hGA0)
 refine (show WC _ _ _ _ [(0, v0), (1, vi a1), (2, ag (cp a2 v2_1 v2_13 v2_15))] _ from ?_)
 refine sq (rg ?_)
 have gq := h
 obtain ⟨P, Q, R, rfl⟩ := br.shape
 have h := gq
 have gr := h
 obtain ⟨ae, af, ah, rfl⟩ := bs.shape
 have h := gr
 have gs := h
 obtain ⟨ai, aj, ak, rfl⟩ := bt.shape
 have h := gs
 refine WL.box (O := (Lg.O0 A)) 11 (cp a2 (vl P Q R) (vl ae af ah) (vl ai aj ak)) z z z ?_
 intro ad hO ie F cb
 refine wY (ya z) z (nl (th (sq (sq (rg ?_)))))
 have cc := gp.st F z
 obtain ⟨iz, gt, h⟩ := bnd h
 refine WL.call (vals := []) kok7 z z (c_law33_awake (A := fun _ => True) cc.at_ trivial gt) ?_
 rintro ig gu ⟨rfl, gw⟩
 obtain ⟨gl, hP, hQ, r⟩ := adoptE hO (fun k => 1) gw
 refine wY (Y.not z) z (nl (th ?_))
 rcases cnd h with ⟨bu, h⟩ | ⟨bu, h⟩
 ·refine WC.condT' z bu (sq (rg (wY (ya z) z (nl (th (rt (At.thenR ?_)))))))
  obtain rfl := some1 h
  have gz : Stp [] (Lg.O0 A) w gl gu := (tr_ (su_ F z) (su_ r z))
  exact At.res (.inl z) z (.tmp z .nil) ⟨z, (se_ gz z z)⟩
 ·refine WC.condF' z bu (sk (th (sq (sq (rg (wY (ym z) z ?_))))))
  have cd := (gn.i F z z).i r z z
  obtain ⟨iA, gC, h⟩ := bnd h
  refine WL.call (vals := [v0]) kok8 z z (c_ref33_Few (A := fun _ => True) (Sl.all cd) gC) ?_
  rintro ih gE ⟨rfl, gG⟩
  obtain ⟨ce, hR, hS, t⟩ := adoptE gl (fun k => 1) gG
  refine wY (Y.not z) z (wY (ym z) z ?_)
  obtain ⟨hT, h, gH⟩ := bnd h
  refine WL.cut 4 (σ := (Bool × Own)) (fun x w' => x.1 = hT ∧ Stp [] ce gE x.2 w') (fun x => [(0, v0), (1, vi a1), (5, pt ad 0), (34, vB x.1)]) ?_ ?_
  ·rcases cnd h with ⟨bw, h⟩ | ⟨bw, h⟩
   ·refine WL.ren 30 z (congrArg vB bw) (WL.gS z z z z (WL.gS z z z z (WL.gS z z z z (wY (Y.pick (b := true) z z) z ?_))))
    exact nl (At.join (σ := (Bool × Own)) (true, ce) ⟨some1 h, (sr_ _ _ _)⟩ (.cons z (.cons z (.cons z (.cons z .nil)))))
   ·refine WL.ren 30 z (congrArg vB bw) (ug z z ?_)
    have gJ := (cb.st r z).st t z
    refine wY (yL ty41 z z (gJ.cells 0 (cp a2 (vl P Q R) (vl ae af ah) (vl ai aj ak)) z) z) z (ug z z ?_)
    have gM := ((br.i F z z).i r z z).i t z z
    have gQ := ((bs.i F z z).i r z z).i t z z
    have gV := ((bt.i F z z).i r z z).i t z z
    obtain ⟨hU, gW, h⟩ := bnd h
    refine WL.call (vals := [ag (cp a2 (vl P Q R) (vl ae af ah) (vl ai aj ak))]) kok13 z z (c_ref12_Light (A := fun _ => True) (a0 := a2) (Sl.all gM) (Sl.all gQ) (Sl.all gV) gW) ?_
    rintro ii ij ⟨rfl, gX⟩
    obtain ⟨hV, hW, hX, cy⟩ := adoptE ce (fun k => 1) gX
    refine ug z z (wY (Y.not z) z (wY (Y.pick (b := false) z z) z ?_))
    exact nl (At.join (σ := (Bool × Own)) ((!hU), hV) ⟨some1 h, (su_ cy z)⟩ (.cons z (.cons z (.cons z (.cons z .nil)))))
  ·rintro ⟨hY, gm⟩ gY ⟨rfl, I⟩
   replace h := gH
   try dsimp only at h I
   refine (show WL _ _ _ _ _ [(0, v0), (1, vi a1), (5, pt ad 0), (34, vB hY)] _ from ?_)
   refine nl (th ?_)
   rcases cnd h with ⟨bx, h⟩ | ⟨bx, h⟩
   ·refine WC.condT' z bx (sq (rg (wY (ya z) z (nl (th (rt (At.thenR ?_)))))))
    obtain rfl := some1 h
    have gZ : Stp [] (Lg.O0 A) w gm gY := (tr_ (su_ F z) (tr_ (su_ r z) (tr_ (su_ t z) (su_ I z))))
    exact At.res (.inl z) z (.tmp z .nil) ⟨z, (se_ gZ z z)⟩
   ·refine WC.condF' z bx (sk (th (sq (rg (wY (ym z) z (wY (Y.max_i z z) z (wY (ym z) z ?_)))))))
    have bz := (cd.i t z z).i I z z
    refine wY (Y.len ty22 z bz) z (wY (Y.min_i z z) z ?_)
    obtain ⟨cf, cz, h⟩ := lt1 h
    refine WL.yE (ya z) (congrArg vi cz.symm) z (nl (th (sq (rg (wY (ym z) z ?_)))))
    have cg := ((cc.st r z).st t z).st I z
    obtain ⟨⟨ap, iB, iC⟩, g3, h⟩ := bnd h
    refine WL.call (vals := [v0]) kok11 z z (c_relabel_Compile (A := fun _ => True) (Sl.all bz) cg.at_ trivial g3) ?_
    rintro ik ch ⟨bq, rfl, g4, ci⟩
    obtain ⟨bA, hE, ay, H⟩ := adoptE gm (labP bq 12) g4
    refine wY (ym z) z (wY (yx z z) z (wY (yx z z) z (wY (yx z z) z (wY (ya z) z (wY (ya z) z (wY (ya z) z (nl (th (sq ?_)))))))))
    refine rg (wY (ym z) z (wY (ym z) z ?_))
    obtain ⟨il, cA, h⟩ := bnd h
    have bL := bz.i H z z
    obtain ⟨g5, cC, cD⟩ := Sl.slice (ρ := [(47, v0), (48, vi cf)]) (x := (.tmp 47)) (lo := none) (hi := (some (.tmp 48))) ty22 ty28 rfl rfl rfl bL cA
    refine wY (Y.sub (.cons z (.cons z .nil)) (cC _ _)) z ?_
    have bM := cg.st H z
    obtain ⟨⟨S, im, io⟩, cE, h⟩ := bnd h
    refine WL.call (vals := [g5]) kok11 z z (c_relabel_Compile (A := fun _ => True) (Sl.all cD) bM.at_ trivial cE) ?_
    rintro hZ bO ⟨aq, rfl, cF, cj⟩
    obtain ⟨bB, hF, az, C⟩ := adoptE bA (labP aq 13) cF
    refine wY (ym z) z (wY (yx z z) z (wY (yx z z) z (wY (yx z z) z (wY (ya z) z (wY (ya z) z (wY (ya z) z (nl (th (sq ?_)))))))))
    refine rg (wY (ym z) z (wY (ym z) z ?_))
    obtain ⟨ip, cG, h⟩ := bnd h
    have cH := bL.i C z z
    obtain ⟨g6, cI, cJ⟩ := Sl.slice (ρ := [(55, v0), (56, vi cf)]) (x := (.tmp 55)) (lo := (some (.tmp 56))) (hi := none) ty22 ty28 rfl rfl rfl cH cG
    refine wY (Y.sub (.cons z (.cons z .nil)) (cI _ _)) z ?_
    have cK := bM.st C z
    obtain ⟨⟨aC, iq, ir⟩, cL, h⟩ := bnd h
    refine WL.call (vals := [g6]) kok11 z z (c_relabel_Compile (A := fun _ => True) (Sl.all cJ) cK.at_ trivial cL) ?_
    rintro h0 al ⟨ar, rfl, cM, ck⟩
    obtain ⟨aD, hG, aA, D⟩ := adoptE bB (labP ar 14) cM
    refine wY (ym z) z (wY (yx z z) z (wY (yx z z) z (wY (yx z z) z (wY (ya z) z (wY (ya z) z (wY (ya z) z (nl (th (sq ?_)))))))))
    refine sq (rg (wY (ym z) z (wY (Y.eql_opt ty29.u z z ci (fun d hd => by obtain ⟨_, _, e, _⟩ := hd; exact ⟨_, e⟩)) z (wY (ym z) z ?_))))
    refine WL.cut 3 (σ := Unit) (fun _ w' => al = w') (fun _ => [(5, pt ad 0), (7, bq), (10, aq), (13, ar), (67, vB (ap.isNone || S.isNone))]) ?_ ?_
    ·refine WL.part 64 z (fun aE => ?_) (fun aE => ?_)
     ·refine WL.gS z z z z (WL.gS z z z z (wY (Y.pick (b := true) z z) z (WL.ren (v' := vB (ap.isNone || S.isNone)) 67 z (congrArg vB (orT aE)) ?_)))
      exact nl (At.join () z (.cons z (.cons z (.cons z (.cons z (.cons z .nil))))))
     ·refine ug z z (wY (ym z) z (ug z z (wY (Y.eql_opt ty29.u z z cj (fun d hd => by obtain ⟨_, _, e, _⟩ := hd; exact ⟨_, e⟩)) z (wY (Y.pick (b := false) z z) z (WL.ren (v' := vB (ap.isNone || S.isNone)) 67 z (congrArg vB (orF aE)) ?_)))))
      exact nl (At.join () z (.cons z (.cons z (.cons z (.cons z (.cons z .nil))))))
    ·rintro _ _ rfl
     refine (show WL _ _ _ _ _ [(5, pt ad 0), (7, bq), (10, aq), (13, ar), (67, vB (ap.isNone || S.isNone))] _ from ?_)
     refine wY (ym z) z ?_
     refine WL.cut 3 (σ := Unit) (fun _ w' => al = w') (fun _ => [(5, pt ad 0), (7, bq), (10, aq), (13, ar), (71, vB ((ap.isNone || S.isNone) || aC.isNone))]) ?_ ?_
     ·refine WL.part 68 z (fun aF => ?_) (fun aF => ?_)
      ·refine WL.gS z z z z (WL.gS z z z z (wY (Y.pick (b := true) z z) z (WL.ren (v' := vB ((ap.isNone || S.isNone) || aC.isNone)) 71 z (congrArg vB (orT aF)) ?_)))
       exact nl (At.join () z (.cons z (.cons z (.cons z (.cons z (.cons z .nil))))))
      ·refine ug z z (wY (ym z) z (ug z z (wY (Y.eql_opt ty29.u z z ck (fun d hd => by obtain ⟨_, _, e, _⟩ := hd; exact ⟨_, e⟩)) z (wY (Y.pick (b := false) z z) z (WL.ren (v' := vB ((ap.isNone || S.isNone) || aC.isNone)) 71 z (congrArg vB (orF aF)) ?_)))))
       exact nl (At.join () z (.cons z (.cons z (.cons z (.cons z (.cons z .nil))))))
     ·rintro _ _ rfl
      refine (show WL _ _ _ _ _ [(5, pt ad 0), (7, bq), (10, aq), (13, ar), (71, vB ((ap.isNone || S.isNone) || aC.isNone))] _ from ?_)
      refine nl (th ?_)
      rcases cnd h with ⟨aG, h⟩ | ⟨aG, h⟩
      ·refine WC.condT' z aG (sq (rg (wY (ym z) z (wY (Y.eql_opt ty29.u z z ci (fun d hd => by obtain ⟨_, _, e, _⟩ := hd; exact ⟨_, e⟩)) z (wY (ya z) z (nl (th (rt (At.thenR ?_)))))))))
       obtain rfl := some1 h
       have cN : Stp [] (Lg.O0 A) w aD al := (tr_ (su_ F z) (tr_ (su_ r z) (tr_ (su_ t z) (tr_ (su_ I z) (tr_ (su_ H z) (tr_ (su_ C z) (su_ D z)))))))
       exact At.res (.inl z) z (.tmp z .nil) ⟨z, (se_ cN z z)⟩
      ·refine WC.condF' z aG (sk (th (sq (rg (wY (ym z) z ?_)))))
       have bP := (((((cb.st r z).st t z).st I z).st H z).st C z).st D z
       refine wY (yL ty41 z z (bP.cells 0 (cp a2 (vl P Q R) (vl ae af ah) (vl ai aj ak)) z) z) z ?_
       obtain ⟨cl, cT, h⟩ := bnd h
       obtain ⟨bC, cm, rfl, cU, g7⟩ := OptP.some ci cT
       have cV : Sl rep_relabel_rule ch (frs bA) cm cl.l := Sl.adoptF g7 (fun k hk => ⟨hk.1, labP_ne hk.2⟩) ay
       have cW : Blk 12 bA ch bC 71 [cm] := Blk.new cU ay (labP_at bC 12)
       have cY := (cW.st C z).st D z
       have c0 := (cV.f C z).f D z
       have bQ := ((((((br.i F z z).i r z z).i t z z).i I z z).i H z z).i C z z).i D z z
       have bR := ((((((bs.i F z z).i r z z).i t z z).i I z z).i H z z).i C z z).i D z z
       have bS := ((((((bt.i F z z).i r z z).i t z z).i I z z).i H z z).i C z z).i D z z
       obtain ⟨⟨a, K, T⟩, dj, h⟩ := bnd h
       refine WL.call (vals := [pt bC 0, ag (cp a2 (vl P Q R) (vl ae af ah) (vl ai aj ak))]) kok14 z z (c_relabel_Rules_Apply (A := fun _ => True) (a0 := cl) (a1 := a2) (Sl.all c0) cY.blk trivial (Sl.all bQ) (Sl.all bR) (Sl.all bS) dj) ?_
       rintro h1 aH ⟨aI, bD, cn, rfl, dk, g8, g9, ha, hc, he, hf⟩
       obtain ⟨aJ, hH, am, G⟩ := adoptE aD (fun k => if ob aI = some k then 15 else if ob bD = some k then 16 else if ob cn = some k then 17 else 1) dk
       have dl : OwnSl 15 rep_api_Pair 59 aJ aH aI a.Attrs := RowF.adopt 15 flat_api_Pair g8 am (fun k hk => if_pos hk)
       have dm : OwnSl 16 Rep.u 34 aJ aH bD a.Hist.Pos.Counts := RowF.adopt 16 Flat.u g9 am (fun k hk => (if_neg (fun (e : ob aI = some k) => hc k e hk)).trans (if_pos hk))
       have dn : OwnSl 17 Rep.u 34 aJ aH cn a.Hist.Neg.Counts := RowF.adopt 17 Flat.u ha am (fun k hk => (if_neg (fun (e : ob aI = some k) => he k e hk)).trans ((if_neg (fun (e : ob bD = some k) => hf k e hk)).trans (if_pos hk)))
       refine wY (ym z) z (wY (yx z z) z (wY (yx z z) z (wY (yx z z) z (WL.alloc (O := aJ) 18 [vs [], sn, vi 0, vi 0, vB false, vi 0, vi 0, vi 0, vu 0, vu 0, vi 0, vu 0, vi 0, sn, vi 0, sn, vi 0] ty41 z z ?_))))
       intro aK hg h2 q dp
       have bT := dl.st q z z z
       have dr := h
       obtain ⟨au, av, ax, rfl⟩ := bT.shape
       have h := dr
       have aL := dm.st q z z z
       have ds := h
       obtain ⟨U, V, W, rfl⟩ := aL.shape
       have h := ds
       have aM := dn.st q z z z
       have dt := h
       obtain ⟨X, Z, aa, rfl⟩ := aM.shape
       have h := dt
       refine WL.store (v := ag (cp a (vl au av ax) (vl U V W) (vl X Z aa))) (cells' := (cp a (vl au av ax) (vl U V W) (vl X Z aa))) ty41 z z dp z (le_ z) z z ?_
       intro h3 m bU
       refine wY (ya z) z (wY (ya z) z (nl (th (sq (rg (wY (ym z) z ?_))))))
       have bW := ((bP.st G z).st q z).st m z
       refine wY (yL ty41 z z (bW.cells 0 (cp a2 (vl P Q R) (vl ae af ah) (vl ai aj ak)) z) z) z ?_
       obtain ⟨co, dx, h⟩ := bnd h
       obtain ⟨bE, cq, rfl, dy, hh⟩ := OptP.some cj dx
       have dz : Sl rep_relabel_rule bO (frs bB) cq co.l := Sl.adoptF hh (fun k hk => ⟨hk.1, labP_ne hk.2⟩) az
       have dA : Blk 13 bB bO bE 71 [cq] := Blk.new dy az (labP_at bE 13)
       have dE := (((dA.st D z).st G z).st q z).st m z
       have dI := (((dz.f D z).f G z).f q z).f m z
       have bX := ((bQ.i G z z).i q z z).i m z z
       have bY := ((bR.i G z z).i q z z).i m z z
       have bZ := ((bS.i G z z).i q z z).i m z z
       obtain ⟨⟨ab, it, iu⟩, dP, h⟩ := bnd h
       refine WL.call (vals := [pt bE 0, ag (cp a2 (vl P Q R) (vl ae af ah) (vl ai aj ak))]) kok14 z z (c_relabel_Rules_Apply (A := fun _ => True) (a0 := co) (a1 := a2) (Sl.all dI) dE.blk trivial (Sl.all bX) (Sl.all bY) (Sl.all bZ) dP) ?_
       rintro h4 aN ⟨aO, bF, cr, rfl, dQ, hj, hm, hn, ho, hp, hq⟩
       obtain ⟨aP, hI, an, n⟩ := adoptE hg (fun k => if ob aO = some k then 19 else if ob bF = some k then 20 else if ob cr = some k then 21 else 1) dQ
       have dR : OwnSl 19 rep_api_Pair 59 aP aN aO ab.Attrs := RowF.adopt 19 flat_api_Pair hj an (fun k hk => if_pos hk)
       have dS : OwnSl 20 Rep.u 34 aP aN bF ab.Hist.Pos.Counts := RowF.adopt 20 Flat.u hm an (fun k hk => (if_neg (fun (e : ob aO = some k) => ho k e hk)).trans (if_pos hk))
       have dT : OwnSl 21 Rep.u 34 aP aN cr ab.Hist.Neg.Counts := RowF.adopt 21 Flat.u hn an (fun k hk => (if_neg (fun (e : ob aO = some k) => hp k e hk)).trans ((if_neg (fun (e : ob bF = some k) => hq k e hk)).trans (if_pos hk)))
       refine wY (ym z) z (wY (yx z z) z (wY (yx z z) z (wY (yx z z) z (WL.alloc (O := aP) 22 [vs [], sn, vi 0, vi 0, vB false, vi 0, vi 0, vi 0, vu 0, vu 0, vi 0, vu 0, vi 0, sn, vi 0, sn, vi 0] ty41 z z ?_))))
       intro iv bG h5 c dU
       have b0 := dR.st c z z z
       have dV := h
       obtain ⟨aQ, aR, aS, rfl⟩ := b0.shape
       have h := dV
       have b1 := dS.st c z z z
       have dW := h
       obtain ⟨aT, aU, aW, rfl⟩ := b1.shape
       have h := dW
       have b2 := dT.st c z z z
       have dX := h
       obtain ⟨aX, aY, aZ, rfl⟩ := b2.shape
       have h := dX
       refine WL.store (v := ag (cp ab (vl aQ aR aS) (vl aT aU aW) (vl aX aY aZ))) (cells' := (cp ab (vl aQ aR aS) (vl aT aU aW) (vl aX aY aZ))) ty41 z z dU z (le_ z) z z ?_
       intro a3 j dY
       refine wY (ya z) z (wY (ya z) z (nl (th (sq (sq (rg (wY (ym z) z (wY (Y.neq_i z z) z (nl ?_)))))))))
       refine th ?_
       rcases cnd h with ⟨a4, h⟩ | ⟨a4, h⟩
       ·refine WC.condT' z a4 (sq (rg (wY (ya z) z (nl (th (rt (At.thenR ?_)))))))
        obtain rfl := some1 h
        have dZ : Stp [18, 22] (Lg.O0 A) w bG a3 := (tr_ (su_ F z) (tr_ (su_ r z) (tr_ (su_ t z) (tr_ (su_ I z) (tr_ (su_ H z) (tr_ (su_ C z) (tr_ (su_ D z) (tr_ (su_ G z) (tr_ (su_ q z) (tr_ (su_ m z) (tr_ (su_ n z) (tr_ (su_ c z) (su_ j z)))))))))))))
        exact At.res (.inl z) z (.tmp z .nil) ⟨z, (se_ dZ z z)⟩
       ·refine WC.condF' z a4 (sk (th (sq (sq (rg (wY (ym z) z (wY (Y.not z) z (nl (th ?_)))))))))
        rcases cnd h with ⟨a5, h⟩ | ⟨a5, h⟩
        ·refine WC.condT' z a5 (sq (rg (wY (ym z) z (wY (Y.not z) z (wY (ym z) z ?_)))))
         refine WL.cut 3 (σ := Unit) (fun _ w' => a3 = w') (fun _ => [(97, vB ((!K) && (decide (T = 0))))]) ?_ ?_
         ·refine WL.part 94 z (fun a6 => ?_) (fun a6 => ?_)
          ·refine ug z z (wY (ym z) z (ug z z (wY (Y.eql_i z z) z (wY (Y.pick (b := true) z z) z (WL.ren (v' := vB ((!K) && (decide (T = 0)))) 97 z (congrArg vB (andT a6)) ?_)))))
           exact nl (At.join () z (.cons z .nil))
          ·refine WL.gS z z z z (WL.gS z z z z (wY (Y.pick (b := false) z z) z (WL.ren (v' := vB ((!K) && (decide (T = 0)))) 97 z (congrArg vB (andF a6)) ?_)))
           exact nl (At.join () z (.cons z .nil))
         ·rintro _ _ rfl
          refine (show WL _ _ _ _ _ [(97, vB ((!K) && (decide (T = 0))))] _ from ?_)
          obtain ⟨iw, d0, h⟩ := lt1 h
          refine WL.yE (ya z) (congrArg vB d0.symm) z (nl (th (rt (At.thenR ?_))))
          obtain rfl := some1 h
          have d1 : Stp [18, 22] (Lg.O0 A) w bG a3 := (tr_ (su_ F z) (tr_ (su_ r z) (tr_ (su_ t z) (tr_ (su_ I z) (tr_ (su_ H z) (tr_ (su_ C z) (tr_ (su_ D z) (tr_ (su_ G z) (tr_ (su_ q z) (tr_ (su_ m z) (tr_ (su_ n z) (tr_ (su_ c z) (su_ j z)))))))))))))
          exact At.res (.inl z) z (.tmp z .nil) ⟨z, (se_ d1 z z)⟩
        ·refine WC.condF' z a5 (sk (th (sq (rg (wY (ym z) z (wY (yL ty41 z z (dY.cells 0 (cp ab (vl aQ aR aS) (vl aT aU aW) (vl aX aY aZ)) z) z) z ?_))))))
         obtain ⟨cs, d2, h⟩ := bnd h
         obtain ⟨bH, ct, rfl, d3, hr⟩ := OptP.some ck d2
         have d4 : Sl rep_relabel_rule al (frs aD) ct cs.l := Sl.adoptF hr (fun k hk => ⟨hk.1, labP_ne hk.2⟩) aA
         have d5 : Blk 14 aD al bH 71 [ct] := Blk.new d3 aA (labP_at bH 14)
         have eb := (((((d5.st G z).st q z).st m z).st n z).st c z).st j z
         have eh := (((((d4.f G z).f q z).f m z).f n z).f c z).f j z
         have ei := b0.st j z z z
         have ej := b1.st j z z z
         have ek := b2.st j z z z
         obtain ⟨⟨ac, a7, a8⟩, em, h⟩ := bnd h
         refine WL.call (vals := [pt bH 0, ag (cp ab (vl aQ aR aS) (vl aT aU aW) (vl aX aY aZ))]) kok14 z z (c_relabel_Rules_Apply (A := fun _ => True) (a0 := cs) (a1 := ab) (Sl.all eh) eb.blk trivial (ei.src.sl) (ej.src.sl) (ek.src.sl) em) ?_
         rintro h6 a9 ⟨ba, bI, cu, rfl, en, hs, ht, hu, hv, hw, hx⟩
         obtain ⟨bb, hJ, ao, E⟩ := adoptE bG (fun k => if ob ba = some k then 23 else if ob bI = some k then 24 else if ob cu = some k then 25 else 1) en
         have eo : OwnSl 23 rep_api_Pair 59 bb a9 ba ac.Attrs := RowF.adopt 23 flat_api_Pair hs ao (fun k hk => if_pos hk)
         have ep : OwnSl 24 Rep.u 34 bb a9 bI ac.Hist.Pos.Counts := RowF.adopt 24 Flat.u ht ao (fun k hk => (if_neg (fun (e : ob ba = some k) => hv k e hk)).trans (if_pos hk))
         have er : OwnSl 25 Rep.u 34 bb a9 cu ac.Hist.Neg.Counts := RowF.adopt 25 Flat.u hu ao (fun k hk => (if_neg (fun (e : ob ba = some k) => hw k e hk)).trans ((if_neg (fun (e : ob bI = some k) => hx k e hk)).trans (if_pos hk)))
         refine wY (ym z) z (wY (yx z z) z (wY (yx z z) z (wY (yx z z) z (WL.alloc (O := bb) 26 [vs [], sn, vi 0, vi 0, vB false, vi 0, vi 0, vi 0, vu 0, vu 0, vi 0, vu 0, vi 0, sn, vi 0, sn, vi 0] ty41 z z ?_))))
         intro cv bJ h7 o es
         have b3 := eo.st o z z z
         have et := h
         obtain ⟨bc, bd, bf, rfl⟩ := b3.shape
         have h := et
         have b4 := ep.st o z z z
         have eu := h
         obtain ⟨bg, bh, bi, rfl⟩ := b4.shape
         have h := eu
         have b5 := er.st o z z z
         have ew := h
         obtain ⟨bj, bk, bl, rfl⟩ := b5.shape
         have h := ew
         refine WL.store (v := ag (cp ac (vl bc bd bf) (vl bg bh bi) (vl bj bk bl))) (cells' := (cp ac (vl bc bd bf) (vl bg bh bi) (vl bj bk bl))) ty41 z z es z (le_ z) z z ?_
         intro b6 p ex
         refine wY (ya z) z (wY (ya z) z (nl (th (sq (sq (rg (wY (ym z) z (wY (ym z) z (wY (Y.neqB z z ty4.u) z ?_)))))))))
         refine wY (ym z) z ?_
         refine WL.cut 4 (σ := Unit) (fun _ w' => b6 = w') (fun _ => [(5, pt ad 0), (16, pt aK 0), (17, vB K), (22, pt cv 0), (112, vB ((!decide (a7 = K)) || (!decide (a8 = T))))]) ?_ ?_
         ·refine WL.part 108 z (fun bm => ?_) (fun bm => ?_)
          ·refine WL.gS z z z z (WL.gS z z z z (WL.gS z z z z (wY (Y.pick (b := true) z z) z (WL.ren (v' := vB ((!decide (a7 = K)) || (!decide (a8 = T)))) 112 z (congrArg vB (orT bm)) ?_))))
           exact nl (At.join () z (.cons z (.cons z (.cons z (.cons z (.cons z .nil))))))
          ·refine ug z z (wY (ym z) z (ug z z (wY (ym z) z (ug z z (wY (Y.neq_i z z) z (wY (Y.pick (b := false) z z) z (WL.ren (v' := vB ((!decide (a7 = K)) || (!decide (a8 = T)))) 112 z (congrArg vB (orF bm)) ?_)))))))
           exact nl (At.join () z (.cons z (.cons z (.cons z (.cons z (.cons z .nil))))))
         ·rintro _ _ rfl
          refine (show WL _ _ _ _ _ [(5, pt ad 0), (16, pt aK 0), (17, vB K), (22, pt cv 0), (112, vB ((!decide (a7 = K)) || (!decide (a8 = T))))] _ from ?_)
          refine wY (ym z) z ?_
          obtain ⟨hy, h, ey⟩ := bnd h
          refine WL.cut 5 (σ := (Bool × Own)) (fun x w' => x.1 = hy ∧ Stp [] bJ b6 x.2 w') (fun x => [(5, pt ad 0), (16, pt aK 0), (17, vB K), (118, vB x.1)]) ?_ ?_
          ·rcases cnd h with ⟨bn, h⟩ | ⟨bn, h⟩
           ·refine WL.ren 113 z (congrArg vB bn) (WL.gS z z z z (WL.gS z z z z (WL.gS z z z z (WL.gS z z z z (wY (Y.pick (b := true) z z) z ?_)))))
            exact nl (At.join (σ := (Bool × Own)) (true, bJ) ⟨some1 h, (sr_ _ _ _)⟩ (.cons z (.cons z (.cons z (.cons z .nil)))))
           ·refine WL.ren 113 z (congrArg vB bn) (ug z z ?_)
            have eE := (((((bU.st n z).st c z).st j z).st E z).st o z).st p z
            refine wY (yL ty41 z z (eE.cells 0 (cp a (vl au av ax) (vl U V W) (vl X Z aa)) z) z) z (ug z z (wY (yL ty41 z z (ex.cells 0 (cp ac (vl bc bd bf) (vl bg bh bi) (vl bj bk bl)) z) z) z (ug z z ?_)))
            have eL := ((((((bT.st m z z z).st n z z z).st c z z z).st j z z z).st E z z z).st o z z z).st p z z z
            have eS := ((((((aL.st m z z z).st n z z z).st c z z z).st j z z z).st E z z z).st o z z z).st p z z z
            have eZ := ((((((aM.st m z z z).st n z z z).st c z z z).st j z z z).st E z z z).st o z z z).st p z z z
            have e0 := b3.st p z z z
            have e1 := b4.st p z z z
            have e2 := b5.st p z z z
            obtain ⟨hz, e5, h⟩ := bnd h
            refine WL.call (vals := [ag (cp a (vl au av ax) (vl U V W) (vl X Z aa)), ag (cp ac (vl bc bd bf) (vl bg bh bi) (vl bj bk bl))]) kok16 z z (c_ref12_Same (A := fun _ => True) (a0 := a) (a1 := ac) (eL.src.sl) (eS.src.sl) (eZ.src.sl) (e0.src.sl) (e1.src.sl) (e2.src.sl) e5) ?_
            rintro h8 h9 ⟨rfl, e6⟩
            obtain ⟨hA, hK, hL, cw⟩ := adoptE bJ (fun k => 1) e6
            refine ug z z (wY (Y.not z) z (wY (Y.pick (b := false) z z) z ?_))
            exact nl (At.join (σ := (Bool × Own)) ((!hz), hA) ⟨some1 h, (su_ cw z)⟩ (.cons z (.cons z (.cons z (.cons z .nil)))))
          ·rintro ⟨hC, bK⟩ b7 ⟨rfl, J⟩
           replace h := ey
           try dsimp only at h J
           refine (show WL _ _ _ _ _ [(5, pt ad 0), (16, pt aK 0), (17, vB K), (118, vB hC)] _ from ?_)
           refine nl (th ?_)
           rcases cnd h with ⟨bo, h⟩ | ⟨bo, h⟩
           ·refine WC.condT' z bo (sq (rg (wY (ya z) z (nl (th (rt (At.thenR ?_)))))))
            obtain rfl := some1 h
            have e7 : Stp [18, 22, 26] (Lg.O0 A) w bK b7 := (tr_ (su_ F z) (tr_ (su_ r z) (tr_ (su_ t z) (tr_ (su_ I z) (tr_ (su_ H z) (tr_ (su_ C z) (tr_ (su_ D z) (tr_ (su_ G z) (tr_ (su_ q z) (tr_ (su_ m z) (tr_ (su_ n z) (tr_ (su_ c z) (tr_ (su_ j z) (tr_ (su_ E z) (tr_ (su_ o z) (tr_ (su_ p z) (su_ J z)))))))))))))))))
            exact At.res (.inl z) z (.tmp z .nil) ⟨z, (se_ e7 z z)⟩
           ·refine WC.condF' z bo (sk (th (sq (sq (rg (wY (ym z) z (wY (Y.not z) z (nl (th ?_)))))))))
            rcases cnd h with ⟨bp, h⟩ | ⟨bp, h⟩
            ·refine WC.condT' z bp (sq (rg (wY (ya z) z (nl (th (rt (At.thenR ?_)))))))
             obtain rfl := some1 h
             have e8 : Stp [18, 22, 26] (Lg.O0 A) w bK b7 := (tr_ (su_ F z) (tr_ (su_ r z) (tr_ (su_ t z) (tr_ (su_ I z) (tr_ (su_ H z) (tr_ (su_ C z) (tr_ (su_ D z) (tr_ (su_ G z) (tr_ (su_ q z) (tr_ (su_ m z) (tr_ (su_ n z) (tr_ (su_ c z) (tr_ (su_ j z) (tr_ (su_ E z) (tr_ (su_ o z) (tr_ (su_ p z) (su_ J z)))))))))))))))))
             exact At.res (.inl z) z (.tmp z .nil) ⟨z, (se_ e8 z z)⟩
            ·refine WC.condF' z bp (sk (th (sq (rg (wY (yf fo41_0 z) z ?_)))))
             have b8 := ((((((bW.st n z).st c z).st j z).st E z).st o z).st p z).st J z
             refine wY (yl ty9 z z (b8.cell 0 _ z)) z (wY (yf fo41_0 z) z ?_)
             have fm := ((((((bU.st n z).st c z).st j z).st E z).st o z).st p z).st J z
             refine WL.store (v := vs a2.Name) (cells' := [vs a2.Name, (vl au av ax), vi a.Kind, vi a.Temp, vB a.Mono, vi a.Start, vi a.Time, vi a.Int_, vu a.Re, vu a.Im, vi a.Hist.Scale, vu a.Hist.Zero, vi a.Hist.Pos.Offset, (vl U V W), vi a.Hist.Neg.Offset, (vl X Z aa), vi a.Flags]) ty9 z z fm z (le_ z) z z ?_
             intro ia L fn
             refine nl (th (sq (rg (wY (yf fo41_1 z) z ?_))))
             have b9 := b8.st L z
             refine wY (yl ty33 z z (b9.cell 1 _ z)) z (wY (yf fo41_1 z) z (WL.store (v := (vl P Q R)) (cells' := [vs a2.Name, (vl P Q R), vi a.Kind, vi a.Temp, vB a.Mono, vi a.Start, vi a.Time, vi a.Int_, vu a.Re, vu a.Im, vi a.Hist.Scale, vu a.Hist.Zero, vi a.Hist.Pos.Offset, (vl U V W), vi a.Hist.Neg.Offset, (vl X Z aa), vi a.Flags]) ty33 z z fn z (le_ z) z z ?_))
             intro ib M fo
             refine nl (th (sq (rg (wY (yL ty41 z z (fo.cells 0 [vs a2.Name, (vl P Q R), vi a.Kind, vi a.Temp, vB a.Mono, vi a.Start, vi a.Time, vi a.Int_, vu a.Re, vu a.Im, vi a.Hist.Scale, vu a.Hist.Zero, vi a.Hist.Pos.Offset, (vl U V W), vi a.Hist.Neg.Offset, (vl X Z aa), vi a.Flags] z) z) z ?_))))
             have fp := b9.st M z
             refine wY (yL ty41 z z (fp.cells 0 (cp a2 (vl P Q R) (vl ae af ah) (vl ai aj ak)) z) z) z ?_
             have ca := ((((((((bX.i n z z).i c z z).i j z z).i E z z).i o z z).i p z z).i J z z).i L z z).i M z z
             have fJ := (((((((((aL.st m z z z).st n z z z).st c z z z).st j z z z).st E z z z).st o z z z).st p z z z).st J z z z).st L z z z).st M z z z
             have fV := (((((((((aM.st m z z z).st n z z z).st c z z z).st j z z z).st E z z z).st o z z z).st p z z z).st J z z z).st L z z z).st M z z z
             have f7 := ((((((((bY.i n z z).i c z z).i j z z).i E z z).i o z z).i p z z).i J z z).i L z z).i M z z
             have gg := ((((((((bZ.i n z z).i c z z).i j z z).i E z z).i o z z).i p z z).i J z z).i L z z).i M z z
             obtain ⟨iy, gh, h⟩ := bnd h
             refine WL.call (vals := [ag [vs a2.Name, (vl P Q R), vi a.Kind, vi a.Temp, vB a.Mono, vi a.Start, vi a.Time, vi a.Int_, vu a.Re, vu a.Im, vi a.Hist.Scale, vu a.Hist.Zero, vi a.Hist.Pos.Offset, (vl U V W), vi a.Hist.Neg.Offset, (vl X Z aa), vi a.Flags], ag (cp a2 (vl P Q R) (vl ae af ah) (vl ai aj ak))]) kok16 z z (c_ref12_Same (A := fun _ => True) (a0 := (api_Point.mk a2.Name a2.Attrs a.Kind a.Temp a.Mono a.Start a.Time a.Int_ a.Re a.Im a.Hist a.Flags)) (a1 := a2) (Sl.all ca) (fJ.src.sl) (fV.src.sl) (Sl.all ca) (Sl.all f7) (Sl.all gg) gh) ?_
             rintro ic gi ⟨rfl, gj⟩
             obtain ⟨hD, hM, hN, cx⟩ := adoptE bK (fun k => 1) gj
             refine wY (ya z) z (nl (th (rt ?_)))
             obtain rfl := some1 h
             have gk : Stp [18, 22, 26] (Lg.O0 A) w hD gi := (tr_ (su_ F z) (tr_ (su_ r z) (tr_ (su_ t z) (tr_ (su_ I z) (tr_ (su_ H z) (tr_ (su_ C z) (tr_ (su_ D z) (tr_ (su_ G z) (tr_ (su_ q z) (tr_ (su_ m z) (tr_ (su_ n z) (tr_ (su_ c z) (tr_ (su_ j z) (tr_ (su_ E z) (tr_ (su_ o z) (tr_ (su_ p z) (tr_ (su_ J z) (tr_ (su_ L z) (tr_ (su_ M z) (su_ cx z))))))))))))))))))))
             exact At.res (.inl z) z (.tmp z .nil) ⟨z, (se_ gk z z)⟩
end Go.Lg
