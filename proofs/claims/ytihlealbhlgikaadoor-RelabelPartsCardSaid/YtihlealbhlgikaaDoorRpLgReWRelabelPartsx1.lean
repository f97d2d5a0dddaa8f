/- The walks of RelabelParts and of what it calls, printed by gen.py. -/
import Derived.Test.YtihlealbhlgikaaDoorRpLgReWRelabelPartsx0
set_option linter.unusedVariables false
namespace Go.Lg
open Go Go.Proofs
set_option maxRecDepth 100000
set_option maxHeartbeats 4000000
theorem c_hist_sides {A : Nat → Prop} {v0_3 : Value} {v0_5 : Value} {a0 : api_Hist} {w : World} (hs0_3 : Sl Rep.u w A v0_3 a0.Pos.Counts) (hs0_5 : Sl Rep.u w A v0_5 a0.Neg.Counts) {r0 : List api_Side} (h : hist_sides a0 = some r0) : Rets Tryd.prog 78 [ag (hl a0 v0_3 v0_5)] w (fun v w' => ∃ (F : List Value), v = Value.agg (List.toArray F) ∧ Ext w w' ∧ Rows' rep_api_Side w' (fun k => A k ∨ w.heap.size ≤ k) F r0 ∧ r0.length = 2) := by
 unfold hist_sides at h
 refine Rets.enter Tryd.func78 z z ?_
 have t : Sl Rep.u w (imm (Lg.O0 A)) v0_3 a0.Pos.Counts := (Sl.start hs0_3)
 have C : Sl Rep.u w (imm (Lg.O0 A)) v0_5 a0.Neg.Counts := (Sl.start hs0_5)
 refine (show WC _ _ _ _ [(0, ag (hl a0 v0_3 v0_5))] _ from ?_)
 refine sq (rg ?_)
 have H := h
 obtain ⟨m, n, o, rfl⟩ := t.shape
 have h := H
 have I := h
 obtain ⟨a, d, j, rfl⟩ := C.shape
 have h := I
 refine WL.box (O := (Lg.O0 A)) 11 (hl a0 (vl m n o) (vl a d j)) z z z ?_
 intro ab X Z q J
 refine WL.alloc (O := X) 12 [vi 0, sn, vi 0, sn] ty125 z z ?_
 intro ac G aa p K
 refine nl (th (sq (rg (wY (yf fo39_2 z) z ?_))))
 have D := J.st p z
 refine wY (yL ty37 z z (D.cells 2 [vi a0.Pos.Offset, (vl m n o)] z) z) z (wY (yf fo39_3 z) z (wY (yL ty37 z z (D.cells 4 [vi a0.Neg.Offset, (vl a d j)] z) z) z (wY (yb (vals := [(0, ag [vi a0.Pos.Offset, (vl m n o)]), (1, ag [vi a0.Neg.Offset, (vl a d j)])]) (cells := [vi a0.Pos.Offset, (vl m n o), vi a0.Neg.Offset, (vl a d j)]) (fe_ z) (by kernel_rfl)) z (WL.store (v := ag [vi a0.Pos.Offset, (vl m n o), vi a0.Neg.Offset, (vl a d j)]) (cells' := [vi a0.Pos.Offset, (vl m n o), vi a0.Neg.Offset, (vl a d j)]) ty125 z z K z (le_ z) z z ?_))))
 intro M r P
 refine nl (th (rt ?_))
 obtain rfl := some1 h
 have E : Stp [12] (Lg.O0 A) w G M := (tr_ (su_ q z) (tr_ (su_ p z) (su_ r z)))
 have T := ((t.i q z z).i p z z).i r z z
 have W := ((C.i q z z).i p z z).i r z z
 exact At.res (.inl z) z (.cell z (P.runAg 0 [vi a0.Pos.Offset, (vl m n o), vi a0.Neg.Offset, (vl a d j)] ty125 z z z) .nil) ⟨[vi a0.Pos.Offset, (vl m n o), vi a0.Neg.Offset, (vl a d j)], z, (se_ E z z), (Rows'.outI (O' := G) (R := rep_api_Side) ⟨[vi a0.Pos.Offset, (vl m n o)], [vi a0.Neg.Offset, (vl a d j)], z, ⟨[vi a0.Pos.Offset], [(vl m n o)], z, z, ⟨_, z, T⟩⟩, ⟨[vi a0.Neg.Offset, (vl a d j)], [], z, ⟨[vi a0.Neg.Offset], [(vl a d j)], z, z, ⟨_, z, W⟩⟩, z⟩⟩ E low0 O0_A), z⟩
theorem c_hist_check {A : Nat → Prop} {v0_1 : Value} {a0 : api_Side} {w : World} (hs0_1 : Sl Rep.u w A v0_1 a0.Counts) {r0 : Int} (h : hist_check a0 = some r0) : Rets Tryd.prog 79 [ag [vi a0.Offset, v0_1]] w (fun v w' => v = vi r0 ∧ Ext w w') := by
 unfold hist_check at h
 refine Rets.enter Tryd.func79 z z ?_
 have J : Sl Rep.u w (imm (Lg.O0 A)) v0_1 a0.Counts := (Sl.start hs0_1)
 refine (show WC _ _ _ _ [(0, ag [vi a0.Offset, v0_1])] _ from ?_)
 refine sq (rg ?_)
 have U := h
 obtain ⟨au, av, ax, rfl⟩ := J.shape
 have h := U
 refine WL.box (O := (Lg.O0 A)) 11 [vi a0.Offset, (vl au av ax)] z z z ?_
 intro I n d j m
 refine wY (ya z) z (nl (th (sq (rg (wY (yf fo37_1 z) z (wY (yl ty35 z z (m.cell 1 _ z)) z ?_))))))
 have o := J.i j z z
 refine wY (Y.len ty35 z o) z ?_
 obtain ⟨a, K, h⟩ := lt1 h
 refine WL.yE (ya z) (congrArg vi K.symm) z (nl (th (sq (WC.block (sq (rg (wY (ym z) z (wY (Y.gtr_i z z) z ?_))))))))
 obtain ⟨aI, V, h⟩ := lt1 h
 refine WL.yE (ya z) (congrArg vB V.symm) z (nl (th ?_))
 rcases cnd h with ⟨p, h⟩ | ⟨p, h⟩
 ·refine WC.condT' z p (sq (rg (wY (ya z) z (nl (th (rt (At.inBlockR (At.thenR ?_))))))))
  obtain rfl := some1 h
  have W : Stp [] (Lg.O0 A) w n d := (su_ j z)
  exact At.res (.inl z) z (.tmp z .nil) ⟨z, (se_ W z z)⟩
 ·refine WC.condF' z p (sq (rg (wY (ym z) z (wY (Y.eql_i z z) z (wY (ym z) z ?_)))))
  refine WL.cut 4 (σ := Unit) (fun _ w' => d = w') (fun _ => [(1, pt I 0), (3, vi a), (17, vB ((decide (a = 0)) && (!decide (a0.Offset = 0))))]) ?_ ?_
  ·refine WL.part 13 z (fun q => ?_) (fun q => ?_)
   ·refine ug z z (wY (yf fo37_0 z) z (ug z z (wY (yl ty3 z z (m.cell 0 _ z)) z (ug z z (wY (Y.neq_i z z) z (wY (Y.pick (b := true) z z) z (WL.ren (v' := vB ((decide (a = 0)) && (!decide (a0.Offset = 0)))) 17 z (congrArg vB (andT q)) ?_)))))))
    exact nl (At.join () z (.cons z (.cons z (.cons z .nil))))
   ·refine WL.gS z z z z (WL.gS z z z z (WL.gS z z z z (wY (Y.pick (b := false) z z) z (WL.ren (v' := vB ((decide (a = 0)) && (!decide (a0.Offset = 0)))) 17 z (congrArg vB (andF q)) ?_))))
    exact nl (At.join () z (.cons z (.cons z (.cons z .nil))))
  ·rintro _ _ rfl
   refine (show WL _ _ _ _ _ [(1, pt I 0), (3, vi a), (17, vB ((decide (a = 0)) && (!decide (a0.Offset = 0))))] _ from ?_)
   obtain ⟨aJ, X, h⟩ := lt1 h
   refine WL.yE (ya z) (congrArg vB X.symm) z (nl (th ?_))
   rcases cnd h with ⟨r, h⟩ | ⟨r, h⟩
   ·refine WC.condT' z r (sq (rg (wY (ya z) z (nl (th (rt (At.inBlockR (At.thenR ?_))))))))
    obtain rfl := some1 h
    have Z : Stp [] (Lg.O0 A) w n d := (su_ j z)
    exact At.res (.inl z) z (.tmp z .nil) ⟨z, (se_ Z z z)⟩
   ·refine WC.condF' z r (sq (rg (wY (ym z) z (wY (Y.eql_i z z) z ?_))))
    obtain ⟨aK, aa, h⟩ := lt1 h
    refine WL.yE (ya z) (congrArg vB aa.symm) z (nl (th ?_))
    rcases cnd h with ⟨t, h⟩ | ⟨t, h⟩
    ·refine WC.condT' z t (sq (rg (wY (ya z) z (nl (th (rt (At.inBlockR (At.thenR ?_))))))))
     obtain rfl := some1 h
     have ab : Stp [] (Lg.O0 A) w n d := (su_ j z)
     exact At.res (.inl z) z (.tmp z .nil) ⟨z, (se_ ab z z)⟩
    ·refine WC.condF' z t (sq (rg (wY (yf fo37_1 z) z (wY (yl ty35 z z (m.cell 1 _ z)) z ?_))))
     obtain ⟨ay, ac, h⟩ := bnd h
     obtain ⟨aL, aC, aD, aG, ad, ae, af, C, M, ah⟩ := Sl.at2 o ac
     obtain rfl := M
     replace C : CellsAt _ _ _ [vu ay] := C
     have P := CAt.imm C ah
     refine wY (Y.indexAddr ty35 ty34 z ad z ae af) z (wY (yl ty34 z z P.at_) z (wY (Y.eql_u (b := 0) z z) z (wY (ym z) z ?_)))
     obtain ⟨az, h, ai⟩ := bnd h
     refine WL.cut 8 (σ := Bool) (fun x w' => x = az ∧ d = w') (fun x => [(1, pt I 0), (3, vi a), (35, vB x)]) ?_ ?_
     ·rcases cnd h with ⟨D, h⟩ | ⟨D, h⟩
      ·refine WL.ren 27 z (congrArg vB D) (WL.gS z z z z (WL.gS z z z z (WL.gS z z z z (WL.gS z z z z (WL.gS z z z z (WL.gS z z z z (WL.gS z z z z (wY (Y.pick (b := true) z z) z ?_))))))))
       exact nl (At.join (σ := Bool) true ⟨some1 h, z⟩ (.cons z (.cons z (.cons z .nil))))
      ·refine WL.ren 27 z (congrArg vB D) (ug z z (wY (yf fo37_1 z) z (ug z z (wY (yl ty35 z z (m.cell 1 _ z)) z (ug z z (wY (ym z) z (ug z z (wY (Y.sub_i z z) z (ug z z ?_)))))))))
       obtain ⟨T, aj, h⟩ := bnd h
       obtain ⟨aM, aE, aF, aH, ak, al, am, E, Q, an⟩ := Sl.at2 o aj
       obtain rfl := Q
       replace E : CellsAt _ _ _ [vu T] := E
       have S := CAt.imm E an
       refine wY (Y.indexAddr ty35 ty34 z ak z al am) z (ug z z (wY (yl ty34 z z S.at_) z (ug z z (wY (Y.eql_u (b := 0) z z) z (wY (Y.pick (b := false) z z) z ?_)))))
       exact nl (At.join (σ := Bool) (decide (T = 0)) ⟨some1 h, z⟩ (.cons z (.cons z (.cons z .nil))))
     ·rintro aA _ ⟨rfl, rfl⟩
      replace h := ai
      try dsimp only at h
      refine (show WL _ _ _ _ _ [(1, pt I 0), (3, vi a), (35, vB aA)] _ from ?_)
      refine wY (ya z) z (nl (th ?_))
      rcases cnd h with ⟨F, h⟩ | ⟨F, h⟩
      ·refine WC.condT' z F (sq (rg (wY (ya z) z (nl (th (rt (At.inBlockR (At.thenR ?_))))))))
       obtain rfl := some1 h
       have ao : Stp [] (Lg.O0 A) w n d := (su_ j z)
       exact At.res (.inl z) z (.tmp z .nil) ⟨z, (se_ ao z z)⟩
      ·refine WC.condF' z F (sq (rg (wY (yf fo37_0 z) z (wY (yl ty3 z z (m.cell 0 _ z)) z (wY (Y.lss_i z z) z (wY (ym z) z ?_))))))
       refine WL.cut 7 (σ := Unit) (fun _ w' => d = w') (fun _ => [(47, vB ((decide (a0.Offset < (-1073741824))) || (decide (w64 (1073741824 - (w64 (a - 1))) < a0.Offset))))]) ?_ ?_
       ·refine WL.part 40 z (fun G => ?_) (fun G => ?_)
        ·refine WL.gS z z z z (WL.gS z z z z (WL.gS z z z z (WL.gS z z z z (WL.gS z z z z (WL.gS z z z z (wY (Y.pick (b := true) z z) z (WL.ren (v' := vB ((decide (a0.Offset < (-1073741824))) || (decide (w64 (1073741824 - (w64 (a - 1))) < a0.Offset)))) 47 z (congrArg vB (orT G)) ?_)))))))
         exact nl (At.join () z (.cons z .nil))
        ·refine ug z z (wY (yf fo37_0 z) z (ug z z (wY (yl ty3 z z (m.cell 0 _ z)) z (ug z z (wY (ym z) z (ug z z (wY (Y.sub_i z z) z (ug z z (wY (Y.sub_i z z) z ?_)))))))))
         refine ug z z (wY (Y.gtr_i z z) z (wY (Y.pick (b := false) z z) z (WL.ren (v' := vB ((decide (a0.Offset < (-1073741824))) || (decide (w64 (1073741824 - (w64 (a - 1))) < a0.Offset)))) 47 z (congrArg vB (orF G)) ?_)))
         exact nl (At.join () z (.cons z .nil))
       ·rintro _ _ rfl
        refine (show WL _ _ _ _ _ [(47, vB ((decide (a0.Offset < (-1073741824))) || (decide (w64 (1073741824 - (w64 (a - 1))) < a0.Offset))))] _ from ?_)
        obtain ⟨aN, ap, h⟩ := lt1 h
        refine WL.yE (ya z) (congrArg vB ap.symm) z (nl (th ?_))
        rcases cnd h with ⟨H, h⟩ | ⟨H, h⟩
        ·refine WC.condT' z H (sq (rg (wY (ya z) z (nl (th (rt (At.inBlockR (At.thenR ?_))))))))
         obtain rfl := some1 h
         have aq : Stp [] (Lg.O0 A) w n d := (su_ j z)
         exact At.res (.inl z) z (.tmp z .nil) ⟨z, (se_ aq z z)⟩
        ·refine WC.condF' z H (sk (At.inBlock (th (sq (rg (wY (ya z) z (nl (th (rt ?_)))))))))
         obtain rfl := some1 h
         have ar : Stp [] (Lg.O0 A) w n d := (su_ j z)
         exact At.res (.inl z) z (.tmp z .nil) ⟨z, (se_ ar z z)⟩
theorem c_hist_Total {A : Nat → Prop} {v0_3 : Value} {v0_5 : Value} {a0 : api_Hist} {w : World} (hs0_3 : Sl Rep.u w A v0_3 a0.Pos.Counts) (hs0_5 : Sl Rep.u w A v0_5 a0.Neg.Counts) {r0 : UInt64} {r1 : Bool} (h : hist_Total a0 = some (r0, r1)) : Rets Tryd.prog 80 [ag (hl a0 v0_3 v0_5)] w (fun v w' => v = tp [vu r0, vB r1] ∧ Ext w w') := by
 unfold hist_Total at h
 refine Rets.enter Tryd.func80 z z ?_
 have ai : Sl Rep.u w (imm (Lg.O0 A)) v0_3 a0.Pos.Counts := (Sl.start hs0_3)
 have aj : Sl Rep.u w (imm (Lg.O0 A)) v0_5 a0.Neg.Counts := (Sl.start hs0_5)
 refine (show WC _ _ _ _ [(0, ag (hl a0 v0_3 v0_5))] _ from ?_)
 refine sq (rg ?_)
 have aY := h
 obtain ⟨ak, al, am, rfl⟩ := ai.shape
 have h := aY
 have aZ := h
 obtain ⟨an, ao, ap, rfl⟩ := aj.shape
 have h := aZ
 refine WL.box (O := (Lg.O0 A)) 11 (hl a0 (vl ak al am) (vl an ao ap)) z z z ?_
 intro bF aq bx j ar
 refine wY (ya (v := vu 0) z) z (wY (ya z) z (nl (th (sq (rg (wY (yf fo39_1 z) z (wY (yl ty34 z z (ar.cell 1 _ z)) z (wY (ya z) z (wY (ya (v := vu 0) z) z ?_)))))))))
 refine nl (th (sq (sq (rg (wY (yL ty39 z z (ar.cells 0 (hl a0 (vl ak al am) (vl an ao ap)) z) z) z ?_)))))
 have a1 := ai.i j z z
 have a2 := aj.i j z z
 obtain ⟨bj, a3, h⟩ := bnd h
 refine WL.call (vals := [ag (hl a0 (vl ak al am) (vl an ao ap))]) kok78 z z (c_hist_sides (A := imm aq) (a0 := a0) a1 a2 a3) ?_
 rintro bz J ⟨a, rfl, a4, bk, bl⟩
 obtain ⟨Q, au, av, S⟩ := adoptE aq (fun k => 1) a4
 have a5 := Rows'.adoptI (O := aq) bk (fun _ hk => hk) (fun _ _ => Nat.le_refl _) au av
 refine wY (ym z) z (nl (th ?_))
 obtain ⟨bm, h, a6⟩ := bnd h
 refine WC.join (σ := (UInt64 × UInt64 × Own)) (fun x w' => (x.1, x.2.1) = bm ∧ Stp [12] Q J x.2.2 w') (fun x => [(4, vu x.1), (5, vu x.2.1)]) ?_ ?_
 ·refine WC.block ?_
  obtain ⟨aR, h, a7⟩ := flow1 h
  obtain ⟨aS, h⟩ := loop_some h
  refine WC.joinB 0 (σ := (UInt64 × UInt64 × Own)) (fun x w' => aR = .go (x.1, x.2.1) ∧ Stp [12] Q J x.2.2 w') (fun x => [(4, vu x.1), (5, vu x.2.1)]) ?_ ?_
  ·refine WC.loop (σ := (UInt64 × UInt64 × Int × Own)) (fun x k w' => loopN k (hist_Total_lp1 bj) (x.1, x.2.1, x.2.2.1) = some aR ∧ Stp [12] Q J x.2.2.2 w') (fun x => [(4, vu x.1), (5, vu x.2.1), (14, Value.agg (List.toArray a)), (15, vi x.2.2.1)]) (a0.Zero, 0, 0, Q) aS (.cons z (.cons z (.cons z (.cons z .nil)))) ⟨h, (sr_ _ _ _)⟩ ?_
   rintro ⟨p, n, d, ax⟩ aS a8 ⟨h, m⟩
   obtain ⟨bn, bG, rfl, h, ay⟩ := rnd1 h
   unfold hist_Total_lp1 at h
   try dsimp only at h m
   refine (show WC _ _ _ _ [(4, vu p), (5, vu n), (14, Value.agg (List.toArray a)), (15, vi d)] _ from ?_)
   refine sq (rg (wY (Y.lss_i z z) z (nl (th (sq ?_)))))
   rcases cnd h with ⟨K, h⟩ | ⟨K, h⟩
   ·refine WC.condT' z K (sk (th (sq (WC.block (sq (rg ?_))))))
    have a9 := Rows'.i a5 m z z
    obtain ⟨o, az, h⟩ := bnd h
    obtain ⟨bA, q, aI⟩ := arrAt (R := rep_api_Side) (w := a8) (A := imm ax) (cells := a) a9 az
    obtain ⟨_, _, rfl, rfl, ⟨bo, rfl, ba⟩⟩ := aI
    replace q : _ = [vi o.Offset, bo] := q
    refine wY (Y.indexArrAg ty125 ty37 z z q az bl) z (WL.alloc (O := ax) 12 [vi 0, sn] ty37 z z ?_)
    intro bH bp bB T bb
    have aA := ba.i T z z
    have bc := h
    obtain ⟨U, V, W, rfl⟩ := aA.shape
    have h := bc
    refine WL.store (v := ag [vi o.Offset, (vl U V W)]) (cells' := [vi o.Offset, (vl U V W)]) ty37 z z bb z (le_ z) z z ?_
    intro M X bd
    refine nl (th (sq (rg (wY (yf fo37_1 z) z (wY (yl ty35 z z (bd.cell 1 _ z)) z ?_)))))
    have aC := aA.i X z z
    refine wY (Y.len ty35 z aC) z (wY (ym z) z (nl (th ?_)))
    obtain ⟨bq, h, bf⟩ := bnd h
    refine WC.join (σ := (UInt64 × UInt64)) (fun x w' => (x.1, x.2) = bq ∧ M = w') (fun x => [(4, vu x.1), (5, vu x.2), (14, Value.agg (List.toArray a)), (15, vi d)]) ?_ ?_
    ·refine WC.block ?_
     obtain ⟨aT, h, bg⟩ := flow1 h
     obtain ⟨aU, h⟩ := loop_some h
     refine WC.joinB 2 (σ := (UInt64 × UInt64)) (fun x w' => aT = .go (x.1, x.2) ∧ M = w') (fun x => [(4, vu x.1), (5, vu x.2), (14, Value.agg (List.toArray a)), (15, vi d)]) ?_ ?_
     ·refine WC.loop (σ := (UInt64 × UInt64 × Int)) (fun x k w' => loopN k (hist_Total_lp2 o) (x.1, x.2.1, x.2.2) = some aT ∧ M = w') (fun x => [(4, vu x.1), (5, vu x.2.1), (14, Value.agg (List.toArray a)), (15, vi d), (19, (vl U V W)), (20, vi (o.Counts.length : Int)), (21, vi x.2.2)]) (p, n, 0) aU (.cons z (.cons z (.cons z (.cons z (.cons z (.cons z (.cons z .nil))))))) ⟨h, z⟩ ?_
      rintro ⟨Z, E, aW⟩ aU _ ⟨h, rfl⟩
      obtain ⟨br, bC, rfl, h, aa⟩ := rnd1 h
      unfold hist_Total_lp2 at h
      try dsimp only at h
      refine (show WC _ _ _ _ [(4, vu Z), (5, vu E), (14, Value.agg (List.toArray a)), (15, vi d), (19, (vl U V W)), (20, vi (o.Counts.length : Int)), (21, vi aW)] _ from ?_)
      refine sq (rg (wY (Y.lss_i z z) z (nl (th (sq ?_)))))
      rcases cnd h with ⟨r, h⟩ | ⟨r, h⟩
      ·refine WC.condT' z r (sk (th (sq (WC.block (sq (rg ?_))))))
       obtain ⟨bh, aJ, h⟩ := bnd h
       obtain ⟨bD, bs, bt, bw, aK, aL, aM, t, aD, aN⟩ := Sl.at2 aC aJ
       obtain rfl := aD
       replace t : CellsAt _ _ _ [vu bh] := t
       have aE := CAt.imm t aN
       refine wY (Y.indexAddr ty35 ty34 z aK z aL aM) z (wY (yl ty34 z z aE.at_) z (wY (ya z) z (nl (th (sq (rg (wY (ya (v := vu 0) z) z (nl (th ?_)))))))))
       refine sq (rg (wY (ym z) z (wY (ym z) z (wY (Y.add64 (c := 0) x64_96 (by decide) z z z) z (wY (ym z) z (wY (yx z z) z (wY (yx z z) z ?_)))))))
       obtain ⟨aF, af, h⟩ := lt1 h
       refine WL.yE (ya z) (congrArg vu af.symm) z ?_
       obtain ⟨bi, F, h⟩ := lt1 h
       refine WL.yE (ya z) (congrArg vu F.symm) z (nl (th (rg (wY (ym z) z (wY (ym z) z (wY (Y.or_u z z) z ?_))))))
       obtain ⟨ah, P, h⟩ := lt1 h
       refine WL.yE (ya z) (congrArg vu P.symm) z (nl (At.inBlock (th (rg (wY (Y.add_i z z) z (wY (ym z) z (nl ?_)))))))
       exact At.round (aF, ah, w64 (aW + 1)) br (Nat.lt_succ_self _) ⟨next1 h aa, z⟩ (.cons z (.cons z (.cons z (.cons z (.cons z (.cons z (.cons z .nil)))))))
      ·refine WC.condF' z r (WC.exit (At.thenX (At.loopX ?_)))
       exact At.hitB (σ := (UInt64 × UInt64)) (Z, E) ⟨brk1 h aa, z⟩ (.cons z (.cons z (.cons z (.cons z .nil))))
     ·rintro ⟨ab, G⟩ _ ⟨rfl, rfl⟩
      replace h := flowK_go bg
      try dsimp only at h
      refine (show At _ _ _ [(4, vu ab), (5, vu G), (14, Value.agg (List.toArray a)), (15, vi d)] _ from ?_)
      refine At.inBlockHit ?_
      exact At.join (σ := (UInt64 × UInt64)) (ab, G) ⟨some1 h, z⟩ (.cons z (.cons z (.cons z (.cons z .nil))))
    ·rintro ⟨ac, H⟩ _ ⟨rfl, rfl⟩
     replace h := bf
     try dsimp only at h
     refine (show At _ _ _ [(4, vu ac), (5, vu H), (14, Value.agg (List.toArray a)), (15, vi d)] _ from ?_)
     refine At.inBlock (th (rg (wY (Y.add_i z z) z (wY (ym z) z (nl ?_)))))
     exact At.round (ac, H, w64 (d + 1), bp) bn (Nat.lt_succ_self _) ⟨next1 h ay, (tr_ (su_ m z) (tr_ (su_ T z) (su_ X z)))⟩ (.cons z (.cons z (.cons z (.cons z .nil))))
   ·refine WC.condF' z K (WC.exit (At.thenX (At.loopX ?_)))
    exact At.hitB (σ := (UInt64 × UInt64 × Own)) (p, n, ax) ⟨brk1 h ay, (su_ m z)⟩ (.cons z (.cons z .nil))
  ·rintro ⟨ad, I, bu⟩ bE ⟨rfl, ae⟩
   replace h := flowK_go a7
   try dsimp only at h ae
   refine (show At _ _ _ [(4, vu ad), (5, vu I)] _ from ?_)
   refine At.inBlockHit ?_
   exact At.join (σ := (UInt64 × UInt64 × Own)) (ad, I, bu) ⟨some1 h, (su_ ae z)⟩ (.cons z (.cons z .nil))
 ·rintro ⟨aO, aG, aX⟩ aH ⟨rfl, C⟩
  replace h := a6
  try dsimp only at h C
  refine (show At _ _ _ [(4, vu aO), (5, vu aG)] _ from ?_)
  refine th (sq (sq (rg (wY (ym z) z (wY (Y.neq_u (b := 0) z z) z (nl (th ?_)))))))
  rcases cnd h with ⟨D, h⟩ | ⟨D, h⟩
  ·refine WC.condT' z D (sq (rg (wY (ya (v := vu 0) z) z (wY (ya z) z (nl (th (rt (At.thenR ?_))))))))
   obtain ⟨rfl, rfl⟩ := tup2 h
   have aP : Stp [12] (Lg.O0 A) w aX aH := (tr_ (su_ j z) (tr_ (su_ S z) (su_ C z)))
   exact At.res (.inl z) z (.tmp z (.tmp z .nil)) ⟨z, (se_ aP z z)⟩
  ·refine WC.condF' z D (sk (th (sq (rg (wY (ym z) z (wY (ya z) z (wY (ya z) z (nl (th ?_)))))))))
   refine rt ?_
   obtain ⟨rfl, rfl⟩ := tup2 h
   have aQ : Stp [12] (Lg.O0 A) w aX aH := (tr_ (su_ j z) (tr_ (su_ S z) (su_ C z)))
   exact At.res (.inl z) z (.tmp z (.tmp z .nil)) ⟨z, (se_ aQ z z)⟩
theorem c_hist_Check {A : Nat → Prop} {v0_3 : Value} {v0_5 : Value} {a0 : api_Hist} {w : World} (hs0_3 : Sl Rep.u w A v0_3 a0.Pos.Counts) (hs0_5 : Sl Rep.u w A v0_5 a0.Neg.Counts) {r0 : Int} (h : hist_Check a0 = some r0) : Rets Tryd.prog 56 [ag (hl a0 v0_3 v0_5)] w (fun v w' => v = vi r0 ∧ Ext w w') := by
 unfold hist_Check at h
 refine Rets.enter Tryd.func56 z z ?_
 have ad : Sl Rep.u w (imm (Lg.O0 A)) v0_3 a0.Pos.Counts := (Sl.start hs0_3)
 have ae : Sl Rep.u w (imm (Lg.O0 A)) v0_5 a0.Neg.Counts := (Sl.start hs0_5)
 refine (show WC _ _ _ _ [(0, ag (hl a0 v0_3 v0_5))] _ from ?_)
 refine sq (rg ?_)
 have aG := h
 obtain ⟨D, E, F, rfl⟩ := ad.shape
 have h := aG
 have aH := h
 obtain ⟨G, H, I, rfl⟩ := ae.shape
 have h := aH
 refine WL.box (O := (Lg.O0 A)) 11 (hl a0 (vl D E F) (vl G H I)) z z z ?_
 intro n V af a p
 refine wY (ya z) z (nl (th (sq (sq (rg (wY (yf fo39_0 z) z (wY (yl ty3 z z (p.cell 0 _ z)) z (wY (Y.lss_i z z) z (wY (ym z) z ?_)))))))))
 refine WL.cut 4 (σ := Unit) (fun _ w' => af = w') (fun _ => [(1, pt n 0), (15, vB ((decide (a0.Scale < (-10))) || (decide (20 < a0.Scale))))]) ?_ ?_
 ·refine WL.part 11 z (fun K => ?_) (fun K => ?_)
  ·refine WL.gS z z z z (WL.gS z z z z (WL.gS z z z z (wY (Y.pick (b := true) z z) z (WL.ren (v' := vB ((decide (a0.Scale < (-10))) || (decide (20 < a0.Scale)))) 15 z (congrArg vB (orT K)) ?_))))
   exact nl (At.join () z (.cons z (.cons z .nil)))
  ·refine ug z z (wY (yf fo39_0 z) z (ug z z (wY (yl ty3 z z (p.cell 0 _ z)) z (ug z z (wY (Y.gtr_i z z) z (wY (Y.pick (b := false) z z) z (WL.ren (v' := vB ((decide (a0.Scale < (-10))) || (decide (20 < a0.Scale)))) 15 z (congrArg vB (orF K)) ?_)))))))
   exact nl (At.join () z (.cons z (.cons z .nil)))
 ·rintro _ _ rfl
  refine (show WL _ _ _ _ _ [(1, pt n 0), (15, vB ((decide (a0.Scale < (-10))) || (decide (20 < a0.Scale))))] _ from ?_)
  refine nl (th ?_)
  rcases cnd h with ⟨M, h⟩ | ⟨M, h⟩
  ·refine WC.condT' z M (sq (rg (wY (ya z) z (nl (th (rt (At.thenR ?_)))))))
   obtain rfl := some1 h
   have aI : Stp [] (Lg.O0 A) w V af := (su_ a z)
   exact At.res (.inl z) z (.tmp z .nil) ⟨z, (se_ aI z z)⟩
  ·refine WC.condF' z M (sk (th (sq (sq (rg (wY (yL ty39 z z (p.cells 0 (hl a0 (vl D E F) (vl G H I)) z) z) z ?_))))))
   have ah := ad.i a z z
   have ai := ae.i a z z
   obtain ⟨a6, aJ, h⟩ := bnd h
   refine WL.call (vals := [ag (hl a0 (vl D E F) (vl G H I))]) kok78 z z (c_hist_sides (A := imm V) (a0 := a0) ah ai aJ) ?_
   rintro bj P ⟨Q, rfl, aK, a7, a8⟩
   obtain ⟨W, aj, ak, d⟩ := adoptE V (fun k => 1) aK
   have aL := Rows'.adoptI (O := V) a7 (fun _ hk => hk) (fun _ _ => Nat.le_refl _) aj ak
   refine wY (ym z) z (nl (th ?_))
   obtain ⟨a9, h, al⟩ := flow1 h
   refine WC.join (σ := Own) (fun x w' => a9 = .go () ∧ Stp [12] W P x w') (fun x => [(1, pt n 0)]) ?_ ?_
   ·refine WC.block ?_
    obtain ⟨aC, h, am⟩ := flow1 h
    obtain ⟨aD, h⟩ := loop_some h
    refine WC.joinB 0 (σ := Own) (fun x w' => aC = .go () ∧ Stp [12] W P x w') (fun x => [(1, pt n 0)]) ?_ ?_
    ·refine WC.loop (σ := (Int × Own)) (fun x k w' => loopN k (hist_Check_lp1 a6) x.1 = some aC ∧ Stp [12] W P x.2 w') (fun x => [(1, pt n 0), (17, Value.agg (List.toArray Q)), (18, vi x.1)]) (0, W) aD (.cons z (.cons z (.cons z .nil))) ⟨h, (sr_ _ _ _)⟩ ?_
     rintro ⟨aE, an⟩ aD aM ⟨h, j⟩
     obtain ⟨ba, bs, rfl, h, S⟩ := rnd1 h
     unfold hist_Check_lp1 at h
     try dsimp only at h j
     refine (show WC _ _ _ _ [(1, pt n 0), (17, Value.agg (List.toArray Q)), (18, vi aE)] _ from ?_)
     refine sq (rg (wY (Y.lss_i z z) z (nl (th (sq ?_)))))
     rcases cnd h with ⟨T, h⟩ | ⟨T, h⟩
     ·refine WC.condT' z T (sk (th (sq (WC.block (sq (rg ?_))))))
      have aN := Rows'.i aL j z z
      obtain ⟨o, ao, h⟩ := bnd h
      obtain ⟨bk, q, ar⟩ := arrAt (R := rep_api_Side) (w := aM) (A := imm an) (cells := Q) aN ao
      obtain ⟨_, _, rfl, rfl, ⟨bb, rfl, aO⟩⟩ := ar
      replace q : _ = [vi o.Offset, bb] := q
      refine wY (Y.indexArrAg ty125 ty37 z z q ao a8) z (WL.alloc (O := an) 12 [vi 0, sn] ty37 z z ?_)
      intro bt bc bl r aP
      have ap := aO.i r z z
      have aQ := h
      obtain ⟨X, Z, aa, rfl⟩ := ap.shape
      have h := aQ
      refine WL.store (v := ag [vi o.Offset, (vl X Z aa)]) (cells' := [vi o.Offset, (vl X Z aa)]) ty37 z z aP z (le_ z) z z ?_
      intro bm t aR
      refine nl (th (sq (rg (wY (yL ty37 z z (aR.cells 0 [vi o.Offset, (vl X Z aa)] z) z) z ?_))))
      have aS := ap.i t z z
      obtain ⟨bu, aT, h⟩ := bnd h
      refine WL.call (vals := [ag [vi o.Offset, (vl X Z aa)]]) kok79 z z (c_hist_check (A := fun _ => True) (a0 := o) (Sl.all aS) aT) ?_
      rintro bn aU ⟨rfl, aW⟩
      obtain ⟨aF, bd, bf, ab⟩ := adoptE bc (fun k => 1) aW
      refine wY (ya z) z (nl (th (sq (rg (wY (ym z) z (wY (Y.neq_i z z) z (nl (th ?_))))))))
      rcases cnd h with ⟨U, h⟩ | ⟨U, h⟩
      ·refine WC.condT' z U (sq (rg (wY (ym z) z (wY (ya z) z (nl (th (rt (At.inBlockR (At.thenR ?_)))))))))
       refine At.loopR ?_
       have h := outr1 h S am
       refine At.joinBR (At.inBlockR ?_)
       have h := outs1 h al
       refine At.joinR (At.thenR ?_)
       obtain rfl := some1 h
       have aX : Stp [12] (Lg.O0 A) w aF aU := (tr_ (su_ a z) (tr_ (su_ d z) (tr_ (su_ j z) (tr_ (su_ r z) (tr_ (su_ t z) (su_ ab z))))))
       exact At.res (.inl z) z (.tmp z .nil) ⟨z, (se_ aX z z)⟩
      ·refine WC.condF' z U (sk (At.inBlock (th (rg (wY (Y.add_i z z) z (wY (ym z) z (nl ?_)))))))
       exact At.round (w64 (aE + 1), aF) ba (Nat.lt_succ_self _) ⟨next1 h S, (tr_ (su_ j z) (tr_ (su_ r z) (tr_ (su_ t z) (su_ ab z))))⟩ (.cons z (.cons z (.cons z .nil)))
     ·refine WC.condF' z T (WC.exit (At.thenX (At.loopX ?_)))
      exact At.hitB (σ := Own) an ⟨brk1 h S, (su_ j z)⟩ (.cons z .nil)
    ·rintro bg bo ⟨rfl, au⟩
     replace h := flowK_go am
     refine (show At _ _ _ [(1, pt n 0)] _ from ?_)
     refine At.inBlockHit ?_
     exact At.join (σ := Own) bg ⟨go2 h, (su_ au z)⟩ (.cons z .nil)
   ·rintro bh bp ⟨rfl, m⟩
    replace h := flowK_go al
    refine (show At _ _ _ [(1, pt n 0)] _ from ?_)
    refine th (sq (sq (rg ?_)))
    have aZ := (p.st d z).st m z
    refine wY (yL ty39 z z (aZ.cells 0 (hl a0 (vl D E F) (vl G H I)) z) z) z ?_
    have a2 := (ah.i d z z).i m z z
    have av := (ai.i d z z).i m z z
    obtain ⟨⟨bq, br⟩, ax, h⟩ := bnd h
    refine WL.call (vals := [ag (hl a0 (vl D E F) (vl G H I))]) kok80 z z (c_hist_Total (A := fun _ => True) (a0 := a0) (Sl.all a2) (Sl.all av) ax) ?_
    rintro bi ac ⟨rfl, ay⟩
    obtain ⟨aq, a4, a5, J⟩ := adoptE bh (fun k => 1) ay
    refine wY (ym z) z (wY (yx z z) z (wY (yx z z) z (wY (ya z) z (wY (ya z) z (nl (th (sq (rg (wY (ym z) z ?_)))))))))
    refine wY (Y.not z) z (nl (th ?_))
    rcases cnd h with ⟨C, h⟩ | ⟨C, h⟩
    ·refine WC.condT' z C (sq (rg (wY (ya z) z (nl (th (rt (At.thenR ?_)))))))
     obtain rfl := some1 h
     have az : Stp [12] (Lg.O0 A) w aq ac := (tr_ (su_ a z) (tr_ (su_ d z) (tr_ (su_ m z) (su_ J z))))
     exact At.res (.inl z) z (.tmp z .nil) ⟨z, (se_ az z z)⟩
    ·refine WC.condF' z C (sk (th (sq (rg (wY (ya z) z (nl (th (rt ?_))))))))
     obtain rfl := some1 h
     have aA : Stp [12] (Lg.O0 A) w aq ac := (tr_ (su_ a z) (tr_ (su_ d z) (tr_ (su_ m z) (su_ J z))))
     exact At.res (.inl z) z (.tmp z .nil) ⟨z, (se_ aA z z)⟩
theorem c_point_Check {A : Nat → Prop} {v0_1 : Value} {v0_13 : Value} {v0_15 : Value} {a0 : api_Point} {w : World} (hs0_1 : Sl rep_api_Pair w A v0_1 a0.Attrs) (hs0_13 : Sl Rep.u w A v0_13 a0.Hist.Pos.Counts) (hs0_15 : Sl Rep.u w A v0_15 a0.Hist.Neg.Counts) {r0 : Int} (h : point_Check a0 = some r0) : Rets Tryd.prog 31 [ag (cp a0 v0_1 v0_13 v0_15)] w (fun v w' => v = vi r0 ∧ Ext w w') := by
 unfold point_Check at h
 refine Rets.enter Tryd.func31 z z ?_
 have aC : Sl rep_api_Pair w (imm (Lg.O0 A)) v0_1 a0.Attrs := (Sl.start hs0_1)
 have aD : Sl Rep.u w (imm (Lg.O0 A)) v0_13 a0.Hist.Pos.Counts := (Sl.start hs0_13)
 have aE : Sl Rep.u w (imm (Lg.O0 A)) v0_15 a0.Hist.Neg.Counts := (Sl.start hs0_15)
 refine (show WC _ _ _ _ [(0, ag (cp a0 v0_1 v0_13 v0_15))] _ from ?_)
 refine sq (rg ?_)
 have bp := h
 obtain ⟨H, I, J, rfl⟩ := aC.shape
 have h := bp
 have bq := h
 obtain ⟨t, C, D, rfl⟩ := aD.shape
 have h := bq
 have br := h
 obtain ⟨E, F, G, rfl⟩ := aE.shape
 have h := br
 refine WL.box (O := (Lg.O0 A)) 11 (cp a0 (vl H I J) (vl t C D) (vl E F G)) z z z ?_
 intro r ck cG j ak
 refine wY (ya z) z (nl (th (sq (sq (rg (wY (yf fo41_0 z) z (wY (yl ty9 z z (ak.cell 0 _ z)) z (wY (yf fo41_1 z) z (wY (yl ty33 z z (ak.cell 1 _ z)) z ?_)))))))))
 have aF := aC.i j z z
 obtain ⟨cS, bs, h⟩ := bnd h
 refine WL.call (vals := [vs a0.Name, (vl H I J)]) kok49 z z (c_label_Check (A := fun _ => True) (Sl.all aF) bs) ?_
 rintro cH bt ⟨rfl, bu⟩
 obtain ⟨bl, cl, cm, d⟩ := adoptE ck (fun k => 1) bu
 refine wY (ya z) z (nl (th (sq (rg (wY (ym z) z (wY (Y.neq_i z z) z (nl (th ?_))))))))
 rcases cnd h with ⟨al, h⟩ | ⟨al, h⟩
 ·refine WC.condT' z al (sq (rg (wY (ym z) z (wY (ya z) z (nl (th (rt (At.thenR ?_))))))))
  obtain rfl := some1 h
  have bw : Stp [] (Lg.O0 A) w bl bt := (tr_ (su_ j z) (su_ d z))
  exact At.res (.inl z) z (.tmp z .nil) ⟨z, (se_ bw z z)⟩
 ·refine WC.condF' z al (sk (th (sq (WC.block (sq (rg ?_))))))
  have am := ak.st d z
  refine wY (yL ty41 z z (am.cells 0 (cp a0 (vl H I J) (vl t C D) (vl E F G)) z) z) z ?_
  have Q := aF.i d z z
  have S := (aD.i j z z).i d z z
  have T := (aE.i j z z).i d z z
  obtain ⟨cT, bA, h⟩ := bnd h
  refine WL.call (vals := [ag (cp a0 (vl H I J) (vl t C D) (vl E F G))]) kok50 z z (c_point_kinds (A := fun _ => True) (a0 := a0) (Sl.all Q) (Sl.all S) (Sl.all T) bA) ?_
  rintro cI an ⟨rfl, bB⟩
  obtain ⟨ai, cn, co, a⟩ := adoptE bl (fun k => 1) bB
  refine wY (Y.not z) z ?_
  obtain ⟨cU, bC, h⟩ := lt1 h
  refine WL.yE (ya z) (congrArg vB bC.symm) z (nl (th ?_))
  rcases cnd h with ⟨ao, h⟩ | ⟨ao, h⟩
  ·refine WC.condT' z ao (sq (rg (wY (ya z) z (nl (th (rt (At.inBlockR (At.thenR ?_))))))))
   obtain rfl := some1 h
   have bD : Stp [] (Lg.O0 A) w ai an := (tr_ (su_ j z) (tr_ (su_ d z) (su_ a z)))
   exact At.res (.inl z) z (.tmp z .nil) ⟨z, (se_ bD z z)⟩
  ·refine WC.condF' z ao (sq ?_)
   obtain ⟨cq, h, bE⟩ := bnd h
   refine WC.join (σ := (Bool × Own)) (fun x w' => x.1 = cq ∧ Stp [] ai an x.2 w') (fun x => [(1, pt r 0), (16, vB x.1)]) ?_ ?_
   ·refine sq (rg (wY (yf fo41_4 z) z ?_))
    have ap := am.st a z
    refine wY (yl ty4 z z (ap.cell 4 _ z)) z (wY (ym z) z ?_)
    obtain ⟨cr, h, bF⟩ := bnd h
    refine WL.cut 4 (σ := (Bool × Own)) (fun x w' => x.1 = cr ∧ Stp [] ai an x.2 w') (fun x => [(1, pt r 0), (23, vB x.1)]) ?_ ?_
    ·rcases cnd h with ⟨aq, h⟩ | ⟨aq, h⟩
     ·refine WL.ren 19 z (congrArg vB aq) (ug z z (wY (yL ty41 z z (ap.cells 0 (cp a0 (vl H I J) (vl t C D) (vl E F G)) z) z) z (ug z z ?_)))
      have bG := Q.i a z z
      have bH := S.i a z z
      have bI := T.i a z z
      obtain ⟨cs, bJ, h⟩ := bnd h
      refine WL.call (vals := [ag (cp a0 (vl H I J) (vl t C D) (vl E F G))]) kok51 z z (c_point_sum (A := fun _ => True) (a0 := a0) (Sl.all bG) (Sl.all bH) (Sl.all bI) bJ) ?_
      rintro cJ cK ⟨rfl, bK⟩
      obtain ⟨ct, cu, cw, aL⟩ := adoptE ai (fun k => 1) bK
      refine ug z z (wY (Y.not z) z (wY (Y.pick (b := true) z z) z ?_))
      exact nl (At.join (σ := (Bool × Own)) ((!cs), ct) ⟨some1 h, (su_ aL z)⟩ (.cons z (.cons z .nil)))
     ·refine WL.ren 19 z (congrArg vB aq) (WL.gS z z z z (WL.gS z z z z (WL.gS z z z z (wY (Y.pick (b := false) z z) z ?_))))
      exact nl (At.join (σ := (Bool × Own)) (false, ai) ⟨some1 h, (sr_ _ _ _)⟩ (.cons z (.cons z .nil)))
    ·rintro ⟨bm, bn⟩ cL ⟨rfl, q⟩
     replace h := bF
     try dsimp only at h q
     refine (show WL _ _ _ _ _ [(1, pt r 0), (23, vB bm)] _ from ?_)
     refine wY (ya z) z (nl (th ?_))
     rcases cnd h with ⟨ar, h⟩ | ⟨ar, h⟩
     ·refine WC.condT' z ar (sk ?_)
      exact At.join (σ := (Bool × Own)) (bm, bn) ⟨some1 h, (su_ q z)⟩ (.cons z (.cons z .nil))
     ·refine WC.condF' z ar (rg ?_)
      have bL := ap.st q z
      refine wY (yL ty41 z z (bL.cells 0 (cp a0 (vl H I J) (vl t C D) (vl E F G)) z) z) z ?_
      have bO := (Q.i a z z).i q z z
      have bQ := (S.i a z z).i q z z
      have bS := (T.i a z z).i q z z
      obtain ⟨cV, bT, h⟩ := bnd h
      refine WL.call (vals := [ag (cp a0 (vl H I J) (vl t C D) (vl E F G))]) kok52 z z (c_point_times (A := fun _ => True) (a0 := a0) (Sl.all bO) (Sl.all bQ) (Sl.all bS) bT) ?_
      rintro cM cN ⟨rfl, bU⟩
      obtain ⟨bW, ca, cb, aG⟩ := adoptE bn (fun k => 1) bU
      refine wY (Y.not z) z ?_
      obtain ⟨bX, aM, h⟩ := lt1 h
      refine WL.yE (ya z) (congrArg vB aM.symm) z (nl ?_)
      exact At.join (σ := (Bool × Own)) (bX, bW) ⟨some1 h, (tr_ (su_ q z) (su_ aG z))⟩ (.cons z (.cons z .nil))
   ·rintro ⟨cx, bo⟩ bY ⟨rfl, m⟩
    replace h := bE
    try dsimp only at h m
    refine (show At _ _ _ [(1, pt r 0), (16, vB cx)] _ from ?_)
    refine th ?_
    rcases cnd h with ⟨U, h⟩ | ⟨U, h⟩
    ·refine WC.condT' z U (sq (rg (wY (ya z) z (nl (th (rt (At.inBlockR (At.thenR ?_))))))))
     obtain rfl := some1 h
     have aN : Stp [] (Lg.O0 A) w bo bY := (tr_ (su_ j z) (tr_ (su_ d z) (tr_ (su_ a z) (su_ m z))))
     exact At.res (.inl z) z (.tmp z .nil) ⟨z, (se_ aN z z)⟩
    ·refine WC.condF' z U (sq (rg ?_))
     have av := (am.st a z).st m z
     refine wY (yL ty41 z z (av.cells 0 (cp a0 (vl H I J) (vl t C D) (vl E F G)) z) z) z ?_
     have aQ := (Q.i a z z).i m z z
     have ax := (S.i a z z).i m z z
     have ay := (T.i a z z).i m z z
     obtain ⟨cO, aT, h⟩ := bnd h
     refine WL.call (vals := [ag (cp a0 (vl H I J) (vl t C D) (vl E F G))]) kok53 z z (c_point_own (A := fun _ => True) (a0 := a0) (Sl.all aQ) (Sl.all ax) (Sl.all ay) aT) ?_
     rintro cy V ⟨rfl, aU⟩
     obtain ⟨W, cc, cd, n⟩ := adoptE bo (fun k => 1) aU
     refine wY (Y.not z) z ?_
     obtain ⟨cP, aW, h⟩ := lt1 h
     refine WL.yE (ya z) (congrArg vB aW.symm) z (nl (th ?_))
     rcases cnd h with ⟨X, h⟩ | ⟨X, h⟩
     ·refine WC.condT' z X (sq (rg (wY (ya z) z (nl (th (rt (At.inBlockR (At.thenR ?_))))))))
      obtain rfl := some1 h
      have aX : Stp [] (Lg.O0 A) w W V := (tr_ (su_ j z) (tr_ (su_ d z) (tr_ (su_ a z) (tr_ (su_ m z) (su_ n z)))))
      exact At.res (.inl z) z (.tmp z .nil) ⟨z, (se_ aX z z)⟩
     ·refine WC.condF' z X (sq (rg (wY (yf fo41_4 z) z ?_)))
      have M := av.st n z
      refine wY (yl ty4 z z (M.cell 4 _ z)) z (wY (ym z) z ?_)
      refine WL.cut 4 (σ := Unit) (fun _ w' => V = w') (fun _ => [(1, pt r 0), (38, vB (a0.Mono && (decide (a0.Kind = 2))))]) ?_ ?_
      ·refine WL.part 34 z (fun Z => ?_) (fun Z => ?_)
       ·refine ug z z (wY (yf fo41_2 z) z (ug z z (wY (yl ty3 z z (M.cell 2 _ z)) z (ug z z (wY (Y.eql_i z z) z (wY (Y.pick (b := true) z z) z (WL.ren (v' := vB (a0.Mono && (decide (a0.Kind = 2)))) 38 z (congrArg vB (andT Z)) ?_)))))))
        exact nl (At.join () z (.cons z (.cons z .nil)))
       ·refine WL.gS z z z z (WL.gS z z z z (WL.gS z z z z (wY (Y.pick (b := false) z z) z (WL.ren (v' := vB (a0.Mono && (decide (a0.Kind = 2)))) 38 z (congrArg vB (andF Z)) ?_))))
        exact nl (At.join () z (.cons z (.cons z .nil)))
      ·rintro _ _ rfl
       refine (show WL _ _ _ _ _ [(1, pt r 0), (38, vB (a0.Mono && (decide (a0.Kind = 2))))] _ from ?_)
       refine wY (ym z) z ?_
       obtain ⟨bZ, h, aY⟩ := bnd h
       refine WL.cut 5 (σ := (Bool × Own)) (fun x w' => x.1 = bZ ∧ Stp [] W V x.2 w') (fun x => [(1, pt r 0), (44, vB x.1)]) ?_ ?_
       ·rcases cnd h with ⟨aa, h⟩ | ⟨aa, h⟩
        ·refine WL.ren 39 z (congrArg vB aa) (ug z z (wY (yf fo41_8 z) z (ug z z (wY (yl ty34 z z (M.cell 8 _ z)) z (ug z z ?_)))))
         obtain ⟨b0, aZ, h⟩ := bnd h
         refine WL.call (vals := [vu a0.Re]) kok54 z z (c_num_Finite aZ) ?_
         rintro cz cA ⟨rfl, a1⟩
         obtain ⟨b1, ce, cf, aH⟩ := adoptE W (fun k => 1) a1
         refine ug z z (wY (Y.not z) z (wY (Y.pick (b := true) z z) z ?_))
         exact nl (At.join (σ := (Bool × Own)) ((!b0), b1) ⟨some1 h, (su_ aH z)⟩ (.cons z (.cons z .nil)))
        ·refine WL.ren 39 z (congrArg vB aa) (WL.gS z z z z (WL.gS z z z z (WL.gS z z z z (WL.gS z z z z (wY (Y.pick (b := false) z z) z ?_)))))
         exact nl (At.join (σ := (Bool × Own)) (false, W) ⟨some1 h, (sr_ _ _ _)⟩ (.cons z (.cons z .nil)))
       ·rintro ⟨b2, K⟩ ab ⟨rfl, o⟩
        replace h := aY
        try dsimp only at h o
        refine (show WL _ _ _ _ _ [(1, pt r 0), (44, vB b2)] _ from ?_)
        refine wY (ya z) z (nl (th ?_))
        rcases cnd h with ⟨ac, h⟩ | ⟨ac, h⟩
        ·refine WC.condT' z ac (sq (rg (wY (ya z) z (nl (th (rt (At.inBlockR (At.thenR ?_))))))))
         obtain rfl := some1 h
         have a2 : Stp [] (Lg.O0 A) w K ab := (tr_ (su_ j z) (tr_ (su_ d z) (tr_ (su_ a z) (tr_ (su_ m z) (tr_ (su_ n z) (su_ o z))))))
         exact At.res (.inl z) z (.tmp z .nil) ⟨z, (se_ a2 z z)⟩
        ·refine WC.condF' z ac (sq (rg (wY (yf fo41_4 z) z ?_)))
         have P := M.st o z
         refine wY (yl ty4 z z (P.cell 4 _ z)) z (wY (ym z) z ?_)
         obtain ⟨b3, h, a3⟩ := bnd h
         refine WL.cut 9 (σ := (Bool × Own)) (fun x w' => x.1 = b3 ∧ Stp [] K ab x.2 w') (fun x => [(1, pt r 0), (57, vB x.1)]) ?_ ?_
         ·rcases cnd h with ⟨ad, h⟩ | ⟨ad, h⟩
          ·refine WL.ren 48 z (congrArg vB ad) (ug z z (wY (yf fo41_7 z) z (ug z z (wY (yl ty3 z z (P.cell 7 _ z)) z (ug z z (wY (Y.lss_i z z) z (ug z z (wY (ym z) z ?_))))))))
           obtain ⟨b4, h, a4⟩ := bnd h
           refine WL.cut 4 (σ := (Bool × Own)) (fun x w' => x.1 = b4 ∧ Stp [] K ab x.2 w') (fun x => [(1, pt r 0), (48, vB true), (56, vB x.1)]) ?_ ?_
           ·rcases cnd h with ⟨ae, h⟩ | ⟨ae, h⟩
            ·refine WL.ren 52 z (congrArg vB ae) (WL.gS z z z z (WL.gS z z z z (WL.gS z z z z (ug z z (wY (Y.pick (b := true) z z) z ?_)))))
             exact nl (At.join (σ := (Bool × Own)) (true, K) ⟨some1 h, (sr_ _ _ _)⟩ (.cons z (.cons z (.cons z .nil))))
            ·refine WL.ren 52 z (congrArg vB ae) (ug z z (wY (yf fo41_8 z) z (ug z z (wY (yl ty34 z z (P.cell 8 _ z)) z (ug z z ?_)))))
             obtain ⟨b5, a5, h⟩ := bnd h
             refine WL.call (vals := [vu a0.Re, vu 0]) kok55 z z (c_num_Less a5) ?_
             rintro cC cD ⟨rfl, a6⟩
             obtain ⟨b6, cg, ch, aI⟩ := adoptE K (fun k => 1) a6
             refine ug z z (wY (Y.pick (b := false) z z) z ?_)
             exact nl (At.join (σ := (Bool × Own)) (b5, b6) ⟨some1 h, (su_ aI z)⟩ (.cons z (.cons z (.cons z .nil))))
           ·rintro ⟨aJ, b7⟩ cE ⟨rfl, aj⟩
            replace h := a4
            try dsimp only at h aj
            refine (show WL _ _ _ _ _ [(1, pt r 0), (48, vB true), (56, vB aJ)] _ from ?_)
            refine wY (Y.pick (b := true) z z) z ?_
            exact nl (At.join (σ := (Bool × Own)) (aJ, b7) ⟨some1 h, (su_ aj z)⟩ (.cons z (.cons z .nil)))
          ·refine WL.ren 48 z (congrArg vB ad) (WL.gS z z z z (WL.gS z z z z (WL.gS z z z z (WL.gS z z z z (WL.gS z z z z (WL.gS z z z z (WL.gS z z z z (WL.gS z z z z (wY (Y.pick (b := false) z z) z ?_)))))))))
           exact nl (At.join (σ := (Bool × Own)) (false, K) ⟨some1 h, (sr_ _ _ _)⟩ (.cons z (.cons z .nil)))
         ·rintro ⟨b8, au⟩ az ⟨rfl, p⟩
          replace h := a3
          try dsimp only at h p
          refine (show WL _ _ _ _ _ [(1, pt r 0), (57, vB b8)] _ from ?_)
          refine wY (ya z) z (nl (th ?_))
          rcases cnd h with ⟨af, h⟩ | ⟨af, h⟩
          ·refine WC.condT' z af (sq (rg (wY (ya z) z (nl (th (rt (At.inBlockR (At.thenR ?_))))))))
           obtain rfl := some1 h
           have a7 : Stp [] (Lg.O0 A) w au az := (tr_ (su_ j z) (tr_ (su_ d z) (tr_ (su_ a z) (tr_ (su_ m z) (tr_ (su_ n z) (tr_ (su_ o z) (su_ p z)))))))
           exact At.res (.inl z) z (.tmp z .nil) ⟨z, (se_ a7 z z)⟩
          ·refine WC.condF' z af (sq (rg (wY (yf fo41_2 z) z ?_)))
           have aA := P.st p z
           refine wY (yl ty3 z z (aA.cell 2 _ z)) z (wY (Y.eql_i z z) z ?_)
           obtain ⟨cQ, a8, h⟩ := lt1 h
           refine WL.yE (ya z) (congrArg vB a8.symm) z (nl (th ?_))
           rcases cnd h with ⟨ah, h⟩ | ⟨ah, h⟩
           ·refine WC.condT' z ah (sq (rg (wY (yf fo41_10 z) z (wY (yL ty39 z z (aA.cells 10 (hl a0.Hist (vl t C D) (vl E F G)) z) z) z ?_))))
            have bb := ((ax.i n z z).i o z z).i p z z
            have bf := ((ay.i n z z).i o z z).i p z z
            obtain ⟨cR, bg, h⟩ := bnd h
            refine WL.call (vals := [ag (hl a0.Hist (vl t C D) (vl E F G))]) kok56 z z (c_hist_Check (A := fun _ => True) (a0 := a0.Hist) (Sl.all bb) (Sl.all bf) bg) ?_
            rintro cF bh ⟨rfl, bi⟩
            obtain ⟨b9, ci, cj, aK⟩ := adoptE au (fun k => 1) bi
            refine wY (ya z) z (nl (th (rt (At.inBlockR (At.thenR ?_)))))
            obtain rfl := some1 h
            have bj : Stp [] (Lg.O0 A) w b9 bh := (tr_ (su_ j z) (tr_ (su_ d z) (tr_ (su_ a z) (tr_ (su_ m z) (tr_ (su_ n z) (tr_ (su_ o z) (tr_ (su_ p z) (su_ aK z))))))))
            exact At.res (.inl z) z (.tmp z .nil) ⟨z, (se_ bj z z)⟩
           ·refine WC.condF' z ah (sk (At.inBlock (th (sq (rg (wY (ya z) z (nl (th (rt ?_)))))))))
            obtain rfl := some1 h
            have bk : Stp [] (Lg.O0 A) w au az := (tr_ (su_ j z) (tr_ (su_ d z) (tr_ (su_ a z) (tr_ (su_ m z) (tr_ (su_ n z) (tr_ (su_ o z) (su_ p z)))))))
            exact At.res (.inl z) z (.tmp z .nil) ⟨z, (se_ bk z z)⟩
theorem c_relabel_find {A : Nat → Prop} {a0 : List api_Pair} {v0 : Value} {a1 : List UInt8} {w : World} (hs0 : Sl rep_api_Pair w A v0 a0) {r0 : Int} (h : relabel_find a0 a1 = some r0) : Rets Tryd.prog 83 [v0, vs a1] w (fun v w' => v = vi r0 ∧ Ext w w') := by
 unfold relabel_find at h
 refine Rets.enter Tryd.func83 z z ?_
 have T : Sl rep_api_Pair w (imm (Lg.O0 A)) v0 a0 := (Sl.start hs0)
 refine (show WC _ _ _ _ [(0, v0), (1, vs a1)] _ from ?_)
 refine sq (rg (WL.box (O := (Lg.O0 A)) 11 [vs a1] z z z ?_))
 intro j t n C U
 refine wY (ya z) z (nl (th (sq (rg (wY (ym z) z (wY (Y.mkfunc (fv := []) (cv := [pt j 0]) z z) z ?_))))))
 obtain ⟨am, h, V⟩ := bnd h
 refine WL.callJ (vals := [v0, Value.func (.func 98) (List.toArray []) (List.toArray [pt j 0])]) (σ := (Int × Own)) (fun x w' => x.1 = am ∧ Stp [] t n x.2 w') (fun x => vi x.1) kok94 z z ?_ ?_
 ·refine Rets.enter Tryd.func94 z z ?_
  refine (show WC _ _ _ _ [(0, v0), (1, Value.func (.func 98) (List.toArray []) (List.toArray [pt j 0]))] _ from ?_)
  refine sq (rg (wY (ya z) z (nl (th (sq (sq (rg (wY (ym z) z ?_))))))))
  have F := T.i C z z
  refine wY (Y.len ty33 z F) z (wY (ym z) z (nl (th (WC.block ?_))))
  obtain ⟨P, h, G⟩ := flow1 h
  obtain ⟨Q, h⟩ := loop_some h
  refine WC.joinB 0 (σ := Own) (fun x w' => P = .go () ∧ Stp [] t n x w') (fun x => []) ?_ ?_
  ·refine WC.loop (σ := (Int × Own)) (fun x k w' => loopN k (relabel_find_lp1 a0 a1) x.1 = some P ∧ Stp [] t n x.2 w') (fun x => [(0, v0), (1, Value.func (.func 98) (List.toArray []) (List.toArray [pt j 0])), (7, vi (a0.length : Int)), (8, vi x.1)]) (0, t) Q (.cons z (.cons z (.cons z (.cons z .nil)))) ⟨h, (sr_ _ _ _)⟩ ?_
   rintro ⟨H, I⟩ Q W ⟨h, a⟩
   obtain ⟨an, aF, rfl, h, o⟩ := rnd1 h
   unfold relabel_find_lp1 at h
   try dsimp only at h a
   refine (show WC _ _ _ _ [(0, v0), (1, Value.func (.func 98) (List.toArray []) (List.toArray [pt j 0])), (7, vi (a0.length : Int)), (8, vi H)] _ from ?_)
   refine sq (rg (wY (Y.lss_i z z) z (nl (th (sq ?_)))))
   rcases cnd h with ⟨p, h⟩ | ⟨p, h⟩
   ·refine WC.condT' z p (sk (th (sq (WC.block (sq (rg (wY (ym z) z (wY (ya z) z (nl ?_)))))))))
    refine th (sq (rg (wY (ym z) z (wY (ym z) z (wY (ym z) z ?_)))))
    obtain ⟨d, X, h⟩ := bnd h
    have Z := F.i a z z
    obtain ⟨aG, ay, az, aA, aa, ab, ac, q, J, ad⟩ := Sl.at2 Z X
    obtain ⟨_, _, rfl, rfl, rfl⟩ := J
    replace q : CellsAt _ _ _ [vs d.Key, vs d.Val] := q
    have K := CAt.imm q ad
    refine wY (Y.indexAddr ty33 ty59 z aa z ab ac) z (wY (yL ty59 z z K.at_ z) z ?_)
    obtain ⟨ao, h, ae⟩ := bnd h
    refine WL.callV (fv := []) (cv := [pt j 0]) (vals := [ag [vs d.Key, vs d.Val]]) (σ := (Bool × Own)) (fun x w' => x.1 = ao ∧ Stp [] I W x.2 w') (fun x => vB x.1) kok98 z z z ?_ ?_
    ·refine Rets.enter Tryd.func98 z z ?_
     refine (show WC _ _ _ _ [(0, ag [vs d.Key, vs d.Val]), (1, pt j 0)] _ from ?_)
     refine sq (rg (WL.box (O := I) 12 [vs d.Key, vs d.Val] z z z ?_))
     intro aH ap aC D af
     refine wY (ya z) z (nl (th (sq (rg (wY (yf fo59_0 z) z (wY (yl ty9 z z (af.cell 0 _ z)) z ?_))))))
     have ai := (U.st a z).st D z
     refine wY (yl ty9 z z (ai.cell 0 _ z)) z (wY (Y.eql_s z z) z ?_)
     obtain ⟨aq, aj, h⟩ := lt1 h
     refine WL.yE (ya z) (congrArg vB aj.symm) z (nl (th (rt ?_)))
     exact At.res (.inl z) z (.tmp z .nil) ⟨(aq, ap), ⟨some1 h, (su_ D z)⟩, z⟩
    ·rintro ⟨ar, S⟩ aD ⟨rfl, m⟩
     replace h := ae
     try dsimp only at h m
     refine (show WL _ _ _ _ _ ((16, vB ar) :: _) _ from ?_)
     refine nl (th ?_)
     rcases cnd h with ⟨r, h⟩ | ⟨r, h⟩
     ·refine WC.condT' z r (sq (rg (wY (ym z) z (wY (ya z) z (nl (th (rt (At.inBlockR (At.thenR ?_)))))))))
      refine At.loopR ?_
      have h := outr1 h o G
      refine At.joinBR (At.inBlockR (At.thenR ?_))
      exact At.res (.inl z) z (.tmp z .nil) ⟨(H, S), ⟨some1 h, (tr_ (su_ a z) (su_ m z))⟩, z⟩
     ·refine WC.condF' z r (sk (At.inBlock (th (rg (wY (Y.add_i z z) z (wY (ym z) z (nl ?_)))))))
      exact At.round (w64 (H + 1), S) an (Nat.lt_succ_self _) ⟨next1 h o, (tr_ (su_ a z) (su_ m z))⟩ (.cons z (.cons z (.cons z (.cons z .nil))))
   ·refine WC.condF' z p (WC.exit (At.thenX (At.loopX ?_)))
    exact At.hitB (σ := Own) I ⟨brk1 h o, (su_ a z)⟩ .nil
  ·rintro au aE ⟨rfl, M⟩
   replace h := flowK_go G
   refine (show At _ _ _ [] _ from ?_)
   refine At.inBlockHit (th (sq (rg (wY (ya z) z (nl (th (rt ?_)))))))
   exact At.res (.inl z) z (.tmp z .nil) ⟨((-1), au), ⟨some1 h, (su_ M z)⟩, z⟩
 ·rintro ⟨av, ax⟩ ak ⟨rfl, E⟩
  replace h := V
  try dsimp only at h E
  refine (show WL _ _ _ _ _ ((7, vi av) :: _) _ from ?_)
  refine wY (ya z) z (nl (th (rt ?_)))
  obtain rfl := some1 h
  have al : Stp [] (Lg.O0 A) w ax ak := (tr_ (su_ C z) (su_ E z))
  exact At.res (.inl z) z (.tmp z .nil) ⟨z, (se_ al z z)⟩
theorem c_glob_Glob_Match {A : Nat → Prop} {v0_1 : Value} {a0 : glob_Glob} {b0 : Nat} {a1 : List UInt8} {w : World} (hs0_1 : Sl rep_glob_piece w A v0_1 a0.pieces) (hb0 : w.heap[b0]? = some (.cells (List.toArray [vs a0.text, v0_1]) 96 (0, 0))) (hm0 : A b0) {r0 : Bool} (h : glob_Glob_Match a0 a1 = some r0) : Rets Tryd.prog 86 [pt b0 0, vs a1] w (fun v w' => v = vB r0 ∧ Ext w w') := by
 unfold glob_Glob_Match at h
 refine Rets.enter Tryd.func86 z z ?_
 have aQ : Sl rep_glob_piece w (imm (Lg.O0 A)) v0_1 a0.pieces := (Sl.start hs0_1)
 have aR : Blk 0 (Lg.O0 A) w b0 96 [vs a0.text, v0_1] := ⟨(if_pos hm0), hb0⟩
 refine (show WC _ _ _ _ [(0, pt b0 0), (1, vs a1)] _ from ?_)
 refine sq (rg (wY (ya z) z (nl (th (WC.scope 0 z (sq (rg (wY (ya z) z (wY (ya z) z ?_)))))))))
 refine nl (th (sq (rg (wY (ya z) z (wY (ya z) z (nl (th ?_)))))))
 obtain ⟨bc, h, ab⟩ := flow1 h
 obtain ⟨aP, h⟩ := loop_some h
 refine WC.label 0 (σ := (Int × Int × Int × Int × Own)) (fun x k w' => loopN k (glob_Glob_Match_lp1 a0 a1) (x.1, x.2.1, x.2.2.1, x.2.2.2.1) = some bc ∧ Stp [] (Lg.O0 A) w x.2.2.2.2 w') (fun x => [(0, pt b0 0), (1, vs a1), (5, vi x.1), (6, vi x.2.1), (7, vi x.2.2.1), (8, vi x.2.2.2.1)]) (0, 0, (-1), 0, (Lg.O0 A)) aP z (.cons z (.cons z (.cons z (.cons z (.cons z (.cons z .nil)))))) ⟨h, (sr_ _ _ _)⟩ ?_
 rintro ⟨j, n, a, d, C⟩ aP aS ⟨h, p⟩
 obtain ⟨ac, bu, rfl, h, D⟩ := rnd1 h
 unfold glob_Glob_Match_lp1 at h
 try dsimp only at h p
 refine (show WC _ _ _ _ [(0, pt b0 0), (1, vs a1), (5, vi j), (6, vi n), (7, vi a), (8, vi d)] _ from ?_)
 refine sq (WC.block (sq (rg (wY (ym z) z (wY (ym z) z (wY (yn z) z (wY (yf fo96_1 z) z ?_)))))))
 have E := aR.st p z
 refine wY (yl ty94 z z (E.cell 1 _ z)) z ?_
 have F := aQ.i p z z
 refine wY (Y.len ty94 z F) z (wY (Y.lss_i z z) z (wY (ym z) z ?_))
 obtain ⟨bd, h, aT⟩ := bnd h
 refine WL.cut 10 (σ := Bool) (fun x w' => x = bd ∧ aS = w') (fun x => [(0, pt b0 0), (1, vs a1), (5, vi j), (6, vi n), (7, vi a), (8, vi d), (27, vB x)]) ?_ ?_
 ·rcases cnd h with ⟨S, h⟩ | ⟨S, h⟩
  ·refine WL.ren 17 z (congrArg vB S) (ug z z (wY (ym z) z (ug z z (wY (yn z) z (ug z z (wY (yf fo96_1 z) z (ug z z (wY (yl ty94 z z (E.cell 1 _ z)) z (ug z z ?_)))))))))
   refine wY (ym z) z (ug z z ?_)
   obtain ⟨r, aU, h⟩ := bnd h
   obtain ⟨bw, bj, bk, bn, aW, aX, aY, T, am, aZ⟩ := Sl.at2 F aU
   obtain ⟨_, _, rfl, rfl, ⟨_, _, rfl, ⟨_, _, rfl, rfl, ⟨_, _, rfl, rfl, ⟨_, _, rfl, rfl, rfl⟩⟩⟩, ⟨_, _, rfl, rfl, rfl⟩⟩⟩ := am
   replace T : CellsAt _ _ _ [vi r.kind, vu r.set.a0, vu r.set.a1, vu r.set.a2, vu r.set.a3, vB r.plain, vb r.c] := T
   have an := CAt.imm T aZ
   refine wY (Y.indexAddr ty94 ty100 z aW z aX aY) z (ug z z (wY (yf fo100_0 z) z (ug z z (wY (yl ty3 z z (an.at_.sub 0 [vi r.kind] z)) z (ug z z (wY (Y.eql_i z z) z (wY (Y.pick (b := true) z z) z ?_)))))))
   exact nl (At.join (σ := Bool) (decide (r.kind = 1)) ⟨some1 h, z⟩ (.cons z (.cons z (.cons z (.cons z (.cons z (.cons z (.cons z .nil))))))))
  ·refine WL.ren 17 z (congrArg vB S) (WL.gS z z z z (WL.gS z z z z (WL.gS z z z z (WL.gS z z z z (WL.gS z z z z (WL.gS z z z z (WL.gS z z z z (WL.gS z z z z (WL.gS z z z z ?_)))))))))
   refine wY (Y.pick (b := false) z z) z ?_
   exact nl (At.join (σ := Bool) false ⟨some1 h, z⟩ (.cons z (.cons z (.cons z (.cons z (.cons z (.cons z (.cons z .nil))))))))
 ·rintro bf _ ⟨rfl, rfl⟩
  replace h := aT
  try dsimp only at h
  refine (show WL _ _ _ _ _ [(0, pt b0 0), (1, vs a1), (5, vi j), (6, vi n), (7, vi a), (8, vi d), (27, vB bf)] _ from ?_)
  refine wY (ya z) z (nl (th ?_))
  rcases cnd h with ⟨U, h⟩ | ⟨U, h⟩
  ·refine WC.condT' z U (sq (rg (wY (ym z) z (wY (ym z) z (wY (ya z) z (wY (ya z) z (nl (th (sq ?_)))))))))
   refine rg (wY (ym z) z (wY (Y.add_i z z) z ?_))
   obtain ⟨bg, a2, h⟩ := lt1 h
   refine WL.yE (ya z) (congrArg vi a2.symm) z (nl (th (WC.goto (At.inBlockG (At.thenG ?_)))))
   exact At.roundG (j, bg, n, j, C) ac (Nat.lt_succ_self _) ⟨next1 h D, (su_ p z)⟩ (.cons z (.cons z (.cons z (.cons z (.cons z (.cons z .nil))))))
  ·refine WC.condF' z U (sq (WC.drawH [] [0, 1, 2, 3, 4, 5, 6, 7, 8, 9, 10, 11, 12, 13, 14, 15, 16, 17, 18, 19, 20, 21, 22, 23, 24, 25, 26] C 27 fmix z (by kernel_rfl) ?_))
   intro q o
   refine WD.y 0 z (by kernel_rfl) (fun _ _ _ => ym z) z (WD.y 1 z (by kernel_rfl) (fun _ _ _ => ym z) z (WD.y 2 z (by kernel_rfl) (fun _ _ _ => yn z) z (WD.y 3 z (by kernel_rfl) (fun _ _ _ => yf fo96_1 z) z (WD.y 4 z (by kernel_rfl) (fun bo bx ao => have a3 := E.st o z; have a4 := a3.st ao z; yl ty94 z z (a4.cell 1 _ z)) z (WD.y 5 z (by kernel_rfl) (fun bp bz ap => have a5 := F.i o z z; have a6 := a5.i ap z z; Y.len ty94 z a6) z (WD.y 6 z (by kernel_rfl) (fun _ _ _ => Y.lss_i z z) z (WD.y 7 z (by kernel_rfl) (fun _ _ _ => ym z) z ?_)))))))
   refine WD.join (σ := Unit) (f' := 14) [12, 11, 10, 9, 8, 7, 6, 5, 4, 3, 2, 1, 0] (fun _ O' w' => C = O' ∧ q = w') (fun _ => [(0, pt b0 0), (1, vs a1), (5, vi j), (6, vi n), (7, vi a), (8, vi d), (45, vB ((decide (n < (a0.pieces.length : Int))) && (decide (j < (a1.length : Int)))))]) (fun ad => ?_) ?_
   ·refine WD.part 40 z (fun V => ?_) (fun V => ?_)
    ·refine WD.gT 8 z (by kernel_rfl) z z (fun _ _ _ => ym z) z (WD.gT 9 z (by kernel_rfl) z z (fun _ _ _ => ym z) z (WD.gT 10 z (by kernel_rfl) z z (fun _ _ _ => Y.len_s ty9 z) z (WD.gT 11 z (by kernel_rfl) z z (fun _ _ _ => Y.lss_i z z) z (WD.y 12 z (by kernel_rfl) (fun _ _ _ => Y.pick (b := true) z z) z (WD.ren (v' := vB ((decide (n < (a0.pieces.length : Int))) && (decide (j < (a1.length : Int))))) 45 z (congrArg vB (andT V)) ?_)))))
     exact ad () _ _ _ ⟨z, z⟩ (.cons z (.cons z (.cons z (.cons z (.cons z (.cons z (.cons z .nil)))))))
    ·refine WD.gS 8 z (by kernel_rfl) z z z z (WD.gS 9 z (by kernel_rfl) z z z z (WD.gS 10 z (by kernel_rfl) z z z z (WD.gS 11 z (by kernel_rfl) z z z z (WD.y 12 z (by kernel_rfl) (fun _ _ _ => Y.pick (b := false) z z) z (WD.ren (v' := vB ((decide (n < (a0.pieces.length : Int))) && (decide (j < (a1.length : Int))))) 45 z (congrArg vB (andF V)) ?_)))))
     exact ad () _ _ _ ⟨z, z⟩ (.cons z (.cons z (.cons z (.cons z (.cons z (.cons z (.cons z .nil)))))))
   ·rintro _ _ _ ⟨rfl, rfl⟩
    refine (show WD _ _ _ _ _ _ _ _ [(0, pt b0 0), (1, vs a1), (5, vi j), (6, vi n), (7, vi a), (8, vi d), (45, vB ((decide (n < (a0.pieces.length : Int))) && (decide (j < (a1.length : Int)))))] _ _ from ?_)
    refine WD.y 13 z (by kernel_rfl) (fun _ _ _ => ym z) z ?_
    obtain ⟨a7, h, aq⟩ := bnd h
    refine WD.join (σ := Bool) (f' := 1) [25, 24, 23, 22, 21, 20, 19, 18, 17, 16, 15, 14, 13, 12, 11, 10, 9, 8, 7, 6, 5, 4, 3, 2, 1, 0] (fun x O' w' => x = a7 ∧ q = w' ∧ C = O') (fun x => [(0, pt b0 0), (1, vs a1), (5, vi j), (6, vi n), (7, vi a), (8, vi d), (58, vB x)]) (fun X => ?_) ?_
    ·rcases cnd h with ⟨t, h⟩ | ⟨t, h⟩
     ·refine WD.ren 46 z (congrArg vB t) (WD.gT 14 z (by kernel_rfl) z z (fun _ _ _ => ym z) z (WD.gT 15 z (by kernel_rfl) z z (fun _ _ _ => yn z) z (WD.gT 16 z (by kernel_rfl) z z (fun _ _ _ => yf fo96_1 z) z (WD.gT 17 z (by kernel_rfl) z z (fun bl bq ae => have ar := E.st o z; have au := ar.st ae z; yl ty94 z z (au.cell 1 _ z)) z (WD.gT 18 z (by kernel_rfl) z z (fun _ _ _ => ym z) z ?_)))))
      obtain ⟨m, av, h⟩ := bnd h
      have ax := F.i o z z
      obtain ⟨af, Q, bh, bm, ay, az, aA, H, ah, aC⟩ := Sl.at2 ax av
      obtain ⟨_, _, rfl, rfl, ⟨_, _, rfl, ⟨_, _, rfl, rfl, ⟨_, _, rfl, rfl, ⟨_, _, rfl, rfl, rfl⟩⟩⟩, ⟨_, _, rfl, rfl, rfl⟩⟩⟩ := ah
      replace H : CellsAt _ _ _ [vi m.kind, vu m.set.a0, vu m.set.a1, vu m.set.a2, vu m.set.a3, vB m.plain, vb m.c] := H
      have ai := CAt.imm H aC
      refine WD.gT 19 z (by kernel_rfl) z z (fun _ _ _ => Y.indexAddr ty94 ty100 z ay z az aA) z (WD.gT 20 z (by kernel_rfl) z z (fun _ _ _ => yf fo100_1 z) z (WD.gT 21 z (by kernel_rfl) z z (fun _ _ _ => ym z) z (WD.gT 22 z (by kernel_rfl) z z (fun _ _ _ => ym z) z ?_)))
      obtain ⟨aj, aD, h⟩ := bnd h
      refine WD.gT 23 z (by kernel_rfl) z z (fun _ _ _ => Y.index_s ty9 z z aD) z (WD.heavy 24 z (by kernel_rfl) (ug z z ?_))
      obtain ⟨a8, h, aE⟩ := bnd h
      refine WL.callJ (vals := [Value.pointer (some ⟨af, Q + n.toNat * 7 + 1, none⟩), vb aj]) (σ := Bool) (fun x w' => x = a8 ∧ q = w') (fun x => vB x) kok99 z z ?_ ?_
      ·refine Rets.enter Tryd.func99 z z ?_
       refine (show WC _ _ _ _ [(0, Value.pointer (some ⟨af, Q + n.toNat * 7 + 1, none⟩)), (1, vb aj)] _ from ?_)
       refine sq (rg (wY (ya z) z (nl (th (sq (rg (wY (ym z) z (wY (ym z) z (wY (Y.quo_b (b := 64) (by decide) z z) z ?_)))))))))
       refine wY (yn z) z ?_
       obtain ⟨br, Z, h⟩ := bnd h
       have aa := idx_in Z
       refine wY (Y.indexAddrA ty98 ty34 z z aa.1 aa.2) z (wY (yl ty34 z z (CellsAt.idxU (xs := ([m.set.a0, m.set.a1, m.set.a2, m.set.a3] : List UInt64)) (ai.at_.sub 1 [vu m.set.a0, vu m.set.a1, vu m.set.a2, vu m.set.a3] z) Z)) z (wY (ym z) z (wY (Y.rem_b (b := 64) (by decide) z z) z (wY (Y.conv_bu ty5.u ty143.u z) z (wY (Y.shr_uu z z) z (wY (Y.and_u (b := 1) z z) z (wY (Y.eql_u (b := 1) z z) z ?_)))))))
       obtain ⟨a9, aF, h⟩ := lt1 h
       refine WL.yE (ya z) (congrArg vB aF.symm) z (nl (th (rt ?_)))
       exact At.res (.inl z) z (.tmp z .nil) ⟨a9, ⟨some1 h, z⟩, z⟩
      ·rintro ak _ ⟨rfl, rfl⟩
       replace h := aE
       try dsimp only at h
       refine (show WL _ _ _ _ _ ((57, vB ak) :: _) _ from ?_)
       refine nl (At.dq (sr_ _ _ _) (WD.y 25 z (by kernel_rfl) (fun _ _ _ => Y.pick (b := true) z z) z (WD.ren 46 z (congrArg vB t.symm) ?_)))
       exact X ak _ _ _ ⟨some1 h, z, z⟩ (.cons z (.cons z (.cons z (.cons z (.cons z (.cons z (.cons z .nil)))))))
     ·refine WD.ren 46 z (congrArg vB t) (WD.gS 14 z (by kernel_rfl) z z z z (WD.gS 15 z (by kernel_rfl) z z z z (WD.gS 16 z (by kernel_rfl) z z z z (WD.gS 17 z (by kernel_rfl) z z z z (WD.gS 18 z (by kernel_rfl) z z z z (WD.gS 19 z (by kernel_rfl) z z z z (WD.gS 20 z (by kernel_rfl) z z z z (WD.gS 21 z (by kernel_rfl) z z z z (WD.gS 22 z (by kernel_rfl) z z z z ?_)))))))))
      refine WD.gS 23 z (by kernel_rfl) z z z z (WD.heavy 24 z (by kernel_rfl) (WL.gS z z z z (nl (At.dq (sr_ _ _ _) (WD.y 25 z (by kernel_rfl) (fun _ _ _ => Y.pick (b := false) z z) z (WD.ren 46 z (congrArg vB t.symm) ?_))))))
      exact X false _ _ _ ⟨some1 h, z, z⟩ (.cons z (.cons z (.cons z (.cons z (.cons z (.cons z (.cons z .nil)))))))
    ·rintro bi _ _ ⟨rfl, rfl, rfl⟩
     replace h := aq
     try dsimp only at h
     refine (show WD _ _ _ _ _ _ _ _ [(0, pt b0 0), (1, vs a1), (5, vi j), (6, vi n), (7, vi a), (8, vi d), (58, vB bi)] _ _ from ?_)
     refine WD.y 26 z (by kernel_rfl) (fun _ _ _ => ya z) z (WD.done_ (by kernel_rfl) (th ?_))
     rcases cnd h with ⟨I, h⟩ | ⟨I, h⟩
     ·refine WC.condT' z I (sq (rg (wY (ym z) z (wY (Y.add_i z z) z ?_))))
      obtain ⟨ba, aG, h⟩ := lt1 h
      refine WL.yE (ya z) (congrArg vi aG.symm) z (nl (th (sq (rg (wY (ym z) z (wY (Y.add_i z z) z ?_))))))
      obtain ⟨aH, al, h⟩ := lt1 h
      refine WL.yE (ya z) (congrArg vi al.symm) z (nl (th (WC.goto (At.inBlockG (At.thenG ?_)))))
      exact At.roundG (aH, ba, a, d, C) ac (Nat.lt_succ_self _) ⟨next1 h D, (tr_ (su_ p z) (su_ o z))⟩ (.cons z (.cons z (.cons z (.cons z (.cons z (.cons z .nil))))))
     ·refine WC.condF' z I (sq (rg (wY (ym z) z (wY (ym z) z (wY (yn z) z (wY (yf fo96_1 z) z ?_))))))
      have aI := E.st o z
      refine wY (yl ty94 z z (aI.cell 1 _ z)) z ?_
      have aJ := F.i o z z
      refine wY (Y.len ty94 z aJ) z (wY (Y.eql_i z z) z (wY (ym z) z ?_))
      refine WL.cut 5 (σ := Unit) (fun _ w' => q = w') (fun _ => [(0, pt b0 0), (1, vs a1), (7, vi a), (8, vi d), (76, vB ((decide (n = (a0.pieces.length : Int))) && (decide (j = (a1.length : Int)))))]) ?_ ?_
      ·refine WL.part 71 z (fun J => ?_) (fun J => ?_)
       ·refine ug z z (wY (ym z) z (ug z z (wY (ym z) z (ug z z (wY (Y.len_s ty9 z) z (ug z z (wY (Y.eql_i z z) z (wY (Y.pick (b := true) z z) z (WL.ren (v' := vB ((decide (n = (a0.pieces.length : Int))) && (decide (j = (a1.length : Int))))) 76 z (congrArg vB (andT J)) ?_)))))))))
        exact nl (At.join () z (.cons z (.cons z (.cons z (.cons z (.cons z .nil))))))
       ·refine WL.gS z z z z (WL.gS z z z z (WL.gS z z z z (WL.gS z z z z (wY (Y.pick (b := false) z z) z (WL.ren (v' := vB ((decide (n = (a0.pieces.length : Int))) && (decide (j = (a1.length : Int))))) 76 z (congrArg vB (andF J)) ?_)))))
        exact nl (At.join () z (.cons z (.cons z (.cons z (.cons z (.cons z .nil))))))
      ·rintro _ _ rfl
       refine (show WL _ _ _ _ _ [(0, pt b0 0), (1, vs a1), (7, vi a), (8, vi d), (76, vB ((decide (n = (a0.pieces.length : Int))) && (decide (j = (a1.length : Int)))))] _ from ?_)
       obtain ⟨bs, aK, h⟩ := lt1 h
       refine WL.yE (ya z) (congrArg vB aK.symm) z (nl (th ?_))
       rcases cnd h with ⟨K, h⟩ | ⟨K, h⟩
       ·refine WC.condT' z K (sq (rg (wY (ya z) z (nl (th (rt (At.inBlockR (At.thenR (At.gqR ?_)))))))))
        have h := outr1 h D ab
        obtain rfl := some1 h
        have aL : Stp [] (Lg.O0 A) w C q := (tr_ (su_ p z) (su_ o z))
        exact At.res (.inl z) z (.tmp z .nil) ⟨z, (se_ aL z z)⟩
       ·refine WC.condF' z K (sq (rg (wY (ym z) z (wY (Y.geq_i z z) z (wY (ym z) z ?_)))))
        refine WL.cut 5 (σ := Unit) (fun _ w' => q = w') (fun _ => [(0, pt b0 0), (1, vs a1), (7, vi a), (8, vi d), (85, vB ((decide (0 ≤ a)) && (decide (d < (a1.length : Int)))))]) ?_ ?_
        ·refine WL.part 80 z (fun M => ?_) (fun M => ?_)
         ·refine ug z z (wY (ym z) z (ug z z (wY (ym z) z (ug z z (wY (Y.len_s ty9 z) z (ug z z (wY (Y.lss_i z z) z (wY (Y.pick (b := true) z z) z (WL.ren (v' := vB ((decide (0 ≤ a)) && (decide (d < (a1.length : Int))))) 85 z (congrArg vB (andT M)) ?_)))))))))
          exact nl (At.join () z (.cons z (.cons z (.cons z (.cons z (.cons z .nil))))))
         ·refine WL.gS z z z z (WL.gS z z z z (WL.gS z z z z (WL.gS z z z z (wY (Y.pick (b := false) z z) z (WL.ren (v' := vB ((decide (0 ≤ a)) && (decide (d < (a1.length : Int))))) 85 z (congrArg vB (andF M)) ?_)))))
          exact nl (At.join () z (.cons z (.cons z (.cons z (.cons z (.cons z .nil))))))
        ·rintro _ _ rfl
         refine (show WL _ _ _ _ _ [(0, pt b0 0), (1, vs a1), (7, vi a), (8, vi d), (85, vB ((decide (0 ≤ a)) && (decide (d < (a1.length : Int)))))] _ from ?_)
         obtain ⟨bt, aM, h⟩ := lt1 h
         refine WL.yE (ya z) (congrArg vB aM.symm) z (nl (th ?_))
         rcases cnd h with ⟨P, h⟩ | ⟨P, h⟩
         ·refine WC.condT' z P (sq (rg (wY (ym z) z (wY (Y.add_i z z) z ?_))))
          obtain ⟨G, W, h⟩ := lt1 h
          refine WL.yE (ya z) (congrArg vi W.symm) z (nl (th (sq (rg (wY (ym z) z (wY (Y.add_i z z) z (wY (ym z) z ?_)))))))
          obtain ⟨bb, aN, h⟩ := lt1 h
          refine WL.yE (ya z) (congrArg vi aN.symm) z (wY (ya z) z (nl (th (WC.goto (At.inBlockG (At.thenG ?_))))))
          exact At.roundG (G, bb, a, G, C) ac (Nat.lt_succ_self _) ⟨next1 h D, (tr_ (su_ p z) (su_ o z))⟩ (.cons z (.cons z (.cons z (.cons z (.cons z (.cons z .nil))))))
         ·refine WC.condF' z P (sk (At.inBlock (th (sq (rg (wY (ya z) z (nl (th (rt ?_)))))))))
          refine At.gqR ?_
          have h := outr1 h D ab
          obtain rfl := some1 h
          have aO : Stp [] (Lg.O0 A) w C q := (tr_ (su_ p z) (su_ o z))
          exact At.res (.inl z) z (.tmp z .nil) ⟨z, (se_ aO z z)⟩
theorem c_relabel_rule_holds {A : Nat → Prop} {v0_5 : Value} {a0 : relabel_rule} {v1_1 : Value} {v1_13 : Value} {v1_15 : Value} {a1 : api_Point} {w : World} (hs0_5 : Pr rep_glob_Glob 96 w A v0_5 a0.g) (hs1_1 : Sl rep_api_Pair w A v1_1 a1.Attrs) (hs1_13 : Sl Rep.u w A v1_13 a1.Hist.Pos.Counts) (hs1_15 : Sl Rep.u w A v1_15 a1.Hist.Neg.Counts) {r0 : Bool} (h : relabel_rule_holds a0 a1 = some r0) : Rets Tryd.prog 81 [ag [vi a0.Rule.Kind, vs a0.Rule.Key, vs a0.Rule.Glob, vs a0.Rule.To, vs a0.Rule.Val, v0_5], ag (cp a1 v1_1 v1_13 v1_15)] w (fun v w' => v = vB r0 ∧ Ext w w') := by
 unfold relabel_rule_holds at h
 refine Rets.enter Tryd.func81 z z ?_
 have t : Pr rep_glob_Glob 96 w (imm (Lg.O0 A)) v0_5 a0.g := (Pr.start hs0_5)
 have Z : Sl rep_api_Pair w (imm (Lg.O0 A)) v1_1 a1.Attrs := (Sl.start hs1_1)
 have aa : Sl Rep.u w (imm (Lg.O0 A)) v1_13 a1.Hist.Pos.Counts := (Sl.start hs1_13)
 have ab : Sl Rep.u w (imm (Lg.O0 A)) v1_15 a1.Hist.Neg.Counts := (Sl.start hs1_15)
 refine (show WC _ _ _ _ [(0, ag [vi a0.Rule.Kind, vs a0.Rule.Key, vs a0.Rule.Glob, vs a0.Rule.To, vs a0.Rule.Val, v0_5]), (1, ag (cp a1 v1_1 v1_13 v1_15))] _ from ?_)
 refine sq (rg ?_)
 have ac := h
 obtain ⟨aO, rfl, _⟩ := t.isPtr
 have h := ac
 refine WL.box (O := (Lg.O0 A)) 11 [vi a0.Rule.Kind, vs a0.Rule.Key, vs a0.Rule.Glob, vs a0.Rule.To, vs a0.Rule.Val, (Value.pointer aO)] z z z ?_
 intro M aP a8 a C
 have D := Z.i a z z
 have ad := h
 obtain ⟨P, Q, S, rfl⟩ := D.shape
 have h := ad
 have ae := aa.i a z z
 have af := h
 obtain ⟨aQ, aR, aS, rfl⟩ := ae.shape
 have h := af
 have ah := ab.i a z z
 have ai := h
 obtain ⟨aT, aU, aW, rfl⟩ := ah.shape
 have h := ai
 refine WL.box (O := aP) 12 (cp a1 (vl P Q S) (vl aQ aR aS) (vl aT aU aW)) z z z ?_
 intro bf E aj d n
 refine wY (ya z) z (nl (th (sq (rg (wY (yf fo41_0 z) z (wY (yl ty9 z z (n.cell 0 _ z)) z (wY (ya z) z (nl (th ?_)))))))))
 refine sq ?_
 obtain ⟨aX, h, ak⟩ := bnd h
 refine WC.join (σ := (List UInt8 × Own)) (fun x w' => x.1 = aX ∧ Stp [] E aj x.2 w') (fun x => [(2, pt M 0), (5, vs x.1)]) ?_ ?_
 ·refine sq (rg (wY (yf fo73_0 z) z (wY (yf fo28_1 z) z ?_)))
  have F := C.st d z
  refine wY (yl ty9 z z (F.cell 1 _ z)) z (wY (Y.neq_s (b := []) z z) z (nl (th ?_)))
  rcases cnd h with ⟨o, h⟩ | ⟨o, h⟩
  ·refine WC.condT' z o (sq (rg (wY (ya (v := vs []) z) z (nl (th (sq (rg (wY (yf fo41_1 z) z (wY (yl ty33 z z (n.cell 1 _ z)) z ?_)))))))))
   refine wY (yf fo73_0 z) z (wY (yf fo28_1 z) z (wY (yl ty9 z z (F.cell 1 _ z)) z ?_))
   have G := D.i d z z
   obtain ⟨bg, al, h⟩ := bnd h
   refine WL.call (vals := [(vl P Q S), vs a0.Rule.Key]) kok83 z z (c_relabel_find (A := fun _ => True) (Sl.all G) al) ?_
   rintro a9 ba ⟨rfl, am⟩
   obtain ⟨T, aY, aZ, j⟩ := adoptE E (fun k => 1) am
   refine wY (ya z) z (nl (th (sq (rg (wY (ym z) z (wY (Y.geq_i z z) z (nl (th ?_))))))))
   rcases cnd h with ⟨p, h⟩ | ⟨p, h⟩
   ·refine WC.condT' z p (rg (wY (yf fo41_1 z) z ?_))
    have an := n.st j z
    refine wY (yl ty33 z z (an.cell 1 _ z)) z (wY (ym z) z ?_)
    obtain ⟨r, ao, h⟩ := bnd h
    have ap := G.i j z z
    obtain ⟨bh, a6, a7, bb, aq, ar, au, q, H, av⟩ := Sl.at2 ap ao
    obtain ⟨_, _, rfl, rfl, rfl⟩ := H
    replace q : CellsAt _ _ _ [vs r.Key, vs r.Val] := q
    have I := CAt.imm q av
    refine wY (Y.indexAddr ty33 ty59 z aq z ar au) z (wY (yf fo59_1 z) z (wY (yl ty9 z z (I.at_.sub 1 [vs r.Val] z)) z (wY (ya z) z (nl ?_))))
    exact At.join (σ := (List UInt8 × Own)) (r.Val, T) ⟨some1 h, (su_ j z)⟩ (.cons z (.cons z .nil))
   ·refine WC.condF' z p (sk ?_)
    exact At.join (σ := (List UInt8 × Own)) ([], T) ⟨some1 h, (su_ j z)⟩ (.cons z (.cons z .nil))
  ·refine WC.condF' z o (sk ?_)
   exact At.join (σ := (List UInt8 × Own)) (a1.Name, E) ⟨some1 h, (sr_ _ _ _)⟩ (.cons z (.cons z .nil))
 ·rintro ⟨U, V⟩ ax ⟨rfl, m⟩
  replace h := ak
  try dsimp only at h m
  refine (show At _ _ _ [(2, pt M 0), (5, vs U)] _ from ?_)
  refine th (sq (rg (wY (yf fo73_1 z) z ?_)))
  have az := (C.st d z).st m z
  refine wY (yl ty66 z z (az.cell 5 _ z)) z (wY (ym z) z ?_)
  have aD := ((t.i a z z).i d z z).i m z z
  obtain ⟨W, aE, h⟩ := bnd h
  obtain ⟨X, bc, aF, aG, aH, J⟩ := Pr.some aD aE
  obtain ⟨_, _, rfl, rfl, ⟨a2, rfl, aI⟩⟩ := J
  have aJ : BlkI V ax X 96 [vs W.text, a2] := ⟨le_imm aG, aH⟩
  refine WL.ren 28 z aF ?_
  obtain ⟨bi, aK, h⟩ := bnd h
  refine WL.call (vals := [pt X 0, vs U]) kok86 z z (c_glob_Glob_Match (A := fun _ => True) (a0 := W) (Sl.all aI) aJ.blk trivial aK) ?_
  rintro bd aL ⟨rfl, aM⟩
  obtain ⟨a3, a4, a5, K⟩ := adoptE V (fun k => 1) aM
  refine wY (ya z) z (nl (th (rt ?_)))
  obtain rfl := some1 h
  have aN : Stp [] (Lg.O0 A) w a3 aL := (tr_ (su_ a z) (tr_ (su_ d z) (tr_ (su_ m z) (su_ K z))))
  exact At.res (.inl z) z (.tmp z .nil) ⟨z, (se_ aN z z)⟩
theorem c_relabel_without {A : Nat → Prop} {a0 : List api_Pair} {v0 : Value} {a1 : List UInt8} {w : World} (hs0 : Sl rep_api_Pair w A v0 a0) {r0 : List api_Pair} (h : relabel_without a0 a1 = some r0) : Rets Tryd.prog 82 [v0, vs a1] w (fun v w' => ∃ (u0 : Value), v = u0 ∧ Ext w w' ∧ RowF rep_api_Pair 59 w w' u0 r0) := by
 unfold relabel_without at h
 refine Rets.enter Tryd.func82 z z ?_
 have bX : Sl rep_api_Pair w (imm (Lg.O0 A)) v0 a0 := (Sl.start hs0)
 refine (show WC _ _ _ _ [(0, v0), (1, vs a1)] _ from ?_)
 refine sq (rg (WL.box (O := (Lg.O0 A)) 11 [vs a1] z z z ?_))
 intro j cF c9 ah ar
 refine wY (ya z) z (nl (th (sq (rg (wY (ym z) z ?_)))))
 have bY := bX.i ah z z
 obtain ⟨E, bZ, h⟩ := bnd h
 refine WL.call (vals := [v0]) kok43 z z (c_slices_Clone_api_Pair_api_Pair (A := fun _ => True) (Sl.all bY) bZ) ?_
 rintro a D ⟨_, rfl, b0, cG⟩
 obtain ⟨F, cH, au, G⟩ := adoptE cF (fun k => if ob a = some k then 12 else 1) b0
 have H : OwnSl 12 rep_api_Pair 59 F D a E := RowF.adopt 12 flat_api_Pair cG au (fun k hk => if_pos hk)
 refine wY (Y.mkfunc (fv := []) (cv := [pt j 0]) z z) z ?_
 obtain ⟨cI, h, b1⟩ := bnd h
 refine WL.callJ (vals := [a, Value.func (.func 97) (List.toArray []) (List.toArray [pt j 0])]) (σ := (List api_Pair × Own × Value)) (fun x w' => x.1 = cI ∧ Stp [12, 14, 1001, 1002, 1003, 1004] F D x.2.1 w' ∧ OwnSl 1006 rep_api_Pair 59 x.2.1 w' x.2.2 x.1) (fun x => x.2.2) kok84 z z ?_ ?_
 ·refine Rets.enter Tryd.func84 z z ?_
  refine (show WC _ _ _ _ [(0, a), (1, Value.func (.func 97) (List.toArray []) (List.toArray [pt j 0]))] _ from ?_)
  refine sq (rg (wY (ya z) z (nl (th (sq (rg (wY (ym z) z (wY (ym z) z ?_))))))))
  obtain ⟨cJ, h, b2⟩ := bnd h
  refine WL.callJ (vals := [a, Value.func (.func 97) (List.toArray []) (List.toArray [pt j 0])]) (σ := (Int × Own)) (fun x w' => x.1 = cJ ∧ Stp [] F D x.2 w') (fun x => vi x.1) kok94 z z ?_ ?_
  ·refine Rets.enter Tryd.func94 z z ?_
   refine (show WC _ _ _ _ [(0, a), (1, Value.func (.func 97) (List.toArray []) (List.toArray [pt j 0]))] _ from ?_)
   refine sq (rg (wY (ya z) z (nl (th (sq (sq (rg (wY (ym z) z (wY (Y.len ty33 z H.src.sl) z ?_)))))))))
   refine wY (ym z) z (nl (th (WC.block ?_)))
   obtain ⟨bR, h, av⟩ := flow1 h
   obtain ⟨bS, h⟩ := loop_some h
   refine WC.joinB 0 (σ := Own) (fun x w' => bR = .go () ∧ Stp [] F D x w') (fun x => []) ?_ ?_
   ·refine WC.loop (σ := (Int × Own)) (fun x k w' => loopN k (relabel_without_lp1 a1 E) x.1 = some bR ∧ Stp [] F D x.2 w') (fun x => [(0, a), (1, Value.func (.func 97) (List.toArray []) (List.toArray [pt j 0])), (7, vi (E.length : Int)), (8, vi x.1)]) (0, F) bS (.cons z (.cons z (.cons z (.cons z .nil)))) ⟨h, (sr_ _ _ _)⟩ ?_
    rintro ⟨ax, ay⟩ bS b3 ⟨h, q⟩
    obtain ⟨cK, dp, rfl, h, W⟩ := rnd1 h
    unfold relabel_without_lp1 at h
    try dsimp only at h q
    refine (show WC _ _ _ _ [(0, a), (1, Value.func (.func 97) (List.toArray []) (List.toArray [pt j 0])), (7, vi (E.length : Int)), (8, vi ax)] _ from ?_)
    refine sq (rg (wY (Y.lss_i z z) z (nl (th (sq ?_)))))
    rcases cnd h with ⟨X, h⟩ | ⟨X, h⟩
    ·refine WC.condT' z X (sk (th (sq (WC.block (sq (rg (wY (ym z) z (wY (ya z) z (nl ?_)))))))))
     refine th (sq (rg (wY (ym z) z (wY (ym z) z (wY (ym z) z ?_)))))
     obtain ⟨C, b4, h⟩ := bnd h
     have az := H.st q z z z
     obtain ⟨dr, cY, da, aA, b5, b6, Z, a3⟩ := OwnSl.at az b4
     obtain ⟨_, _, rfl, rfl, rfl⟩ := a3
     replace Z : CellsAt _ _ _ [vs C.Key, vs C.Val] := Z
     have a4 := CAt.own az aA Z
     refine wY (Y.indexAddr ty33 ty59 z aA z b5 b6) z (wY (yL ty59 z z a4.at_ z) z ?_)
     obtain ⟨cL, h, b7⟩ := bnd h
     refine WL.callV (fv := []) (cv := [pt j 0]) (vals := [ag [vs C.Key, vs C.Val]]) (σ := (Bool × Own)) (fun x w' => x.1 = cL ∧ Stp [] ay b3 x.2 w') (fun x => vB x.1) kok97 z z z ?_ ?_
     ·refine Rets.enter Tryd.func97 z z ?_
      refine (show WC _ _ _ _ [(0, ag [vs C.Key, vs C.Val]), (1, pt j 0)] _ from ?_)
      refine sq (rg (WL.box (O := ay) 13 [vs C.Key, vs C.Val] z z z ?_))
      intro ds cM db ai b8
      refine wY (ya z) z (nl (th (sq (rg (wY (yf fo59_0 z) z (wY (yl ty9 z z (b8.cell 0 _ z)) z ?_))))))
      have cb := ((ar.st G z).st q z).st ai z
      refine wY (yl ty9 z z (cb.cell 0 _ z)) z (wY (Y.eql_s z z) z ?_)
      obtain ⟨cN, cc, h⟩ := lt1 h
      refine WL.yE (ya z) (congrArg vB cc.symm) z (nl (th (rt ?_)))
      exact At.res (.inl z) z (.tmp z .nil) ⟨(cN, cM), ⟨some1 h, (su_ ai z)⟩, z⟩
     ·rintro ⟨cO, bT⟩ dc ⟨rfl, I⟩
      replace h := b7
      try dsimp only at h I
      refine (show WL _ _ _ _ _ ((16, vB cO) :: _) _ from ?_)
      refine nl (th ?_)
      rcases cnd h with ⟨aa, h⟩ | ⟨aa, h⟩
      ·refine WC.condT' z aa (sq (rg (wY (ym z) z (wY (ya z) z (nl (th (rt (At.inBlockR (At.thenR ?_)))))))))
       refine At.loopR ?_
       have h := outr1 h W av
       refine At.joinBR (At.inBlockR (At.thenR ?_))
       exact At.res (.inl z) z (.tmp z .nil) ⟨(ax, bT), ⟨some1 h, (tr_ (su_ q z) (su_ I z))⟩, z⟩
      ·refine WC.condF' z aa (sk (At.inBlock (th (rg (wY (Y.add_i z z) z (wY (ym z) z (nl ?_)))))))
       exact At.round (w64 (ax + 1), bT) cK (Nat.lt_succ_self _) ⟨next1 h W, (tr_ (su_ q z) (su_ I z))⟩ (.cons z (.cons z (.cons z (.cons z .nil))))
    ·refine WC.condF' z X (WC.exit (At.thenX (At.loopX ?_)))
     exact At.hitB (σ := Own) ay ⟨brk1 h W, (su_ q z)⟩ .nil
   ·rintro cP dd ⟨rfl, a5⟩
    replace h := flowK_go av
    refine (show At _ _ _ [] _ from ?_)
    refine At.inBlockHit (th (sq (rg (wY (ya z) z (nl (th (rt ?_)))))))
    exact At.res (.inl z) z (.tmp z .nil) ⟨((-1), cP), ⟨some1 h, (su_ a5 z)⟩, z⟩
  ·rintro ⟨bU, aC⟩ ab ⟨rfl, r⟩
   replace h := b2
   try dsimp only at h r
   refine (show WL _ _ _ _ _ ((10, vi bU) :: _) _ from ?_)
   refine wY (ya z) z (nl (th (sq (sq (rg (wY (ym z) z (wY (Y.eql_i z z) z (nl (th ?_)))))))))
   rcases cnd h with ⟨ac, h⟩ | ⟨ac, h⟩
   ·refine WC.condT' z ac (sq (rg (wY (ym z) z (wY (ya z) z (nl (th (rt (At.thenR ?_))))))))
    have cd := H.st r z z z
    obtain ⟨cQ, a6, ce⟩ := OwnSl.rlb 1006 rfl cd
    exact At.res (.inl z) z (.tmp z .nil) ⟨(E, cQ, a), ⟨some1 h, (tr_ (su_ r z) (su_ a6 z)), ce⟩, z⟩
   ·refine WC.condF' z ac (sk (th (sq (sq (rg (wY (ym z) z (wY (Y.add_i z z) z ?_)))))))
    obtain ⟨cR, cf, h⟩ := lt1 h
    refine WL.yE (ya z) (congrArg vi cf.symm) z (nl (th ?_))
    obtain ⟨cS, h, cg⟩ := bnd h
    refine WC.join (σ := (List api_Pair × Int × Own)) (fun x w' => (x.1, x.2.1) = cS ∧ Stp [12, 14, 1001, 1002, 1003] aC ab x.2.2 w' ∧ OwnSl 1004 rep_api_Pair 59 x.2.2 w' a x.1) (fun x => [(0, a), (5, vi x.2.1)]) ?_ ?_
    ·refine WC.block ?_
     obtain ⟨aD, h, a7⟩ := flow1 h
     obtain ⟨aE, h⟩ := loop_some h
     refine WC.joinB 0 (σ := (List api_Pair × Int × Own)) (fun x w' => aD = .go (x.1, x.2.1) ∧ Stp [12, 14, 1001, 1002] aC ab x.2.2 w' ∧ OwnSl 1003 rep_api_Pair 59 x.2.2 w' a x.1) (fun x => [(0, a), (5, vi x.2.1)]) ?_ ?_
     ·have a8 := H.st r z z z
      obtain ⟨ch, aF, a9⟩ := OwnSl.rlb 1002 rfl a8
      refine WC.loop (σ := (List api_Pair × Int × Int × Own)) (fun x k w' => loopN k (relabel_without_lp2 a1) (x.1, x.2.1, x.2.2.1) = some aD ∧ Stp [12, 14, 1001, 1002] aC ab x.2.2.2 w' ∧ OwnSl 1002 rep_api_Pair 59 x.2.2.2 w' a x.1) (fun x => [(0, a), (1, Value.func (.func 97) (List.toArray []) (List.toArray [pt j 0])), (5, vi x.2.1), (6, vi x.2.2.1)]) (E, bU, cR, ch) aE (.cons z (.cons z (.cons z (.cons z .nil)))) ⟨h, (su_ aF z), a9⟩ ?_
      rintro ⟨aG, ad, ae, aH⟩ aE ba ⟨h, t, n⟩
      obtain ⟨ci, de, rfl, h, aj⟩ := rnd1 h
      unfold relabel_without_lp2 at h
      try dsimp only at h t n
      refine (show WC _ _ _ _ [(0, a), (1, Value.func (.func 97) (List.toArray []) (List.toArray [pt j 0])), (5, vi ad), (6, vi ae)] _ from ?_)
      refine sq (sq (rg (wY (ym z) z (wY (ym z) z (wY (Y.len ty33 z n.src.sl) z (wY (Y.lss_i z z) z (nl (th ?_))))))))
      rcases cnd h with ⟨J, h⟩ | ⟨J, h⟩
      ·refine WC.condT' z J (sk (th (sq ?_)))
       obtain ⟨cj, h, bb⟩ := bnd h
       refine WC.join (σ := (List api_Pair × Int × Own)) (fun x w' => (x.1, x.2.1) = cj ∧ Stp [14, 1002] aH ba x.2.2 w' ∧ OwnSl 1001 rep_api_Pair 59 x.2.2 w' a x.1) (fun x => [(0, a), (1, Value.func (.func 97) (List.toArray []) (List.toArray [pt j 0])), (5, vi x.2.1), (6, vi ae)]) ?_ ?_
       ·refine WC.block (sq (rg (wY (ym z) z (wY (ym z) z ?_))))
        obtain ⟨d, bc, h⟩ := bnd h
        obtain ⟨df, cT, cZ, ak, bd, bf, K, aI⟩ := OwnSl.at n bc
        obtain ⟨_, _, rfl, rfl, rfl⟩ := aI
        replace K : CellsAt _ _ _ [vs d.Key, vs d.Val] := K
        have aJ := CAt.own n ak K
        refine wY (Y.indexAddr ty33 ty59 z ak z bd bf) z (wY (yL ty59 z z aJ.at_ z) z (WL.alloc (O := aH) 14 [vs [], vs []] ty59 z z ?_))
        intro dg aK c0 o bg
        refine WL.store (v := ag [vs d.Key, vs d.Val]) (cells' := [vs d.Key, vs d.Val]) ty59 z z bg z (le_ z) z z ?_
        intro bh p al
        refine nl (th (sq (rg (wY (ym z) z (wY (yL ty59 z z (al.cells 0 [vs d.Key, vs d.Val] z) z) z ?_)))))
        obtain ⟨ck, h, bi⟩ := bnd h
        refine WL.callV (fv := []) (cv := [pt j 0]) (vals := [ag [vs d.Key, vs d.Val]]) (σ := (Bool × Own)) (fun x w' => x.1 = ck ∧ Stp [] aK bh x.2 w') (fun x => vB x.1) kok97 z z z ?_ ?_
        ·refine Rets.enter Tryd.func97 z z ?_
         refine (show WC _ _ _ _ [(0, ag [vs d.Key, vs d.Val]), (1, pt j 0)] _ from ?_)
         refine sq (rg (WL.box (O := aK) 15 [vs d.Key, vs d.Val] z z z ?_))
         intro dh cl c1 T bj
         refine wY (ya z) z (nl (th (sq (rg (wY (yf fo59_0 z) z (wY (yl ty9 z z (bj.cell 0 _ z)) z ?_))))))
         have bp := (((((ar.st G z).st r z).st t z).st o z).st p z).st T z
         refine wY (yl ty9 z z (bp.cell 0 _ z)) z (wY (Y.eql_s z z) z ?_)
         obtain ⟨cm, bq, h⟩ := lt1 h
         refine WL.yE (ya z) (congrArg vB bq.symm) z (nl (th (rt ?_)))
         exact At.res (.inl z) z (.tmp z .nil) ⟨(cm, cl), ⟨some1 h, (su_ T z)⟩, z⟩
        ·rintro ⟨cn, di⟩ c2 ⟨rfl, m⟩
         replace h := bi
         try dsimp only at h m
         refine (show WL _ _ _ _ _ ((28, vB cn) :: _) _ from ?_)
         refine wY (Y.not z) z (nl (th ?_))
         rcases cnd h with ⟨M, h⟩ | ⟨M, h⟩
         ·refine WC.condT' z M (sq (rg (wY (ym z) z (wY (ym z) z ?_))))
          have br := al.st m z
          refine wY (yL ty59 z z (br.cells 0 [vs d.Key, vs d.Val] z) z) z ?_
          obtain ⟨aL, bs, h⟩ := bnd h
          have P := ((n.st o z z z).st p z z z).st m z z z
          obtain ⟨dj, cU, c3, Q, bw, bx, S, aM⟩ := OwnSl.at P bs
          obtain ⟨_, _, rfl, rfl, rfl⟩ := aM
          replace S : CellsAt _ _ _ [vs aL.Key, vs aL.Val] := S
          have cV := CAt.own P Q S
          refine wY (Y.indexAddr ty33 ty59 z Q z bw bx) z ?_
          obtain ⟨bz, aN, h⟩ := bnd h
          refine WL.storeOwn (R := rep_api_Pair) (u := d) (by decide) ty59 z z ⟨[vs d.Key], [vs d.Val], z, z, z⟩ P Q aN ?_
          intro c4 aO bA
          refine nl (th (rg (wY (ym z) z (wY (Y.add_i z z) z ?_))))
          obtain ⟨co, bB, h⟩ := lt1 h
          refine WL.yE (ya z) (congrArg vi bB.symm) z (nl (At.inBlock ?_))
          obtain ⟨cq, aP, bC⟩ := OwnSl.rlb 1001 rfl bA
          exact At.join (σ := (List api_Pair × Int × Own)) (bz, co, cq) ⟨some1 h, (tr_ (su_ o z) (tr_ (su_ p z) (tr_ (su_ m z) (tr_ (su_ aO z) (su_ aP z))))), bC⟩ (.cons z (.cons z (.cons z (.cons z .nil))))
         ·refine WC.condF' z M (sk (At.inBlock ?_))
          have bF := ((n.st o z z z).st p z z z).st m z z z
          obtain ⟨cr, aQ, bG⟩ := OwnSl.rlb 1001 rfl bF
          exact At.join (σ := (List api_Pair × Int × Own)) (aG, ad, cr) ⟨some1 h, (tr_ (su_ o z) (tr_ (su_ p z) (tr_ (su_ m z) (su_ aQ z)))), bG⟩ (.cons z (.cons z (.cons z (.cons z .nil))))
       ·rintro ⟨cs, aR, dk⟩ c5 ⟨rfl, U, am⟩
        replace h := bb
        try dsimp only at h U am
        refine (show At _ _ _ [(0, a), (1, Value.func (.func 97) (List.toArray []) (List.toArray [pt j 0])), (5, vi aR), (6, vi ae)] _ from ?_)
        refine th (rg (wY (ym z) z (wY (Y.add_i z z) z ?_)))
        obtain ⟨ct, bH, h⟩ := lt1 h
        refine WL.yE (ya z) (congrArg vi bH.symm) z (nl ?_)
        obtain ⟨cu, aS, bI⟩ := OwnSl.rlb 1002 rfl am
        exact At.round (cs, aR, ct, cu) ci (Nat.lt_succ_self _) ⟨next1 h aj, (tr_ (su_ t z) (tr_ (su_ U z) (su_ aS z))), bI⟩ (.cons z (.cons z (.cons z (.cons z .nil))))
      ·refine WC.condF' z J (WC.exit (At.thenX (At.loopX ?_)))
       obtain ⟨cw, aT, bJ⟩ := OwnSl.rlb 1003 rfl n
       exact At.hitB (σ := (List api_Pair × Int × Own)) (aG, ad, cw) ⟨brk1 h aj, (tr_ (su_ t z) (su_ aT z)), bJ⟩ (.cons z (.cons z .nil))
     ·rintro ⟨cx, aU, dl⟩ c6 ⟨rfl, V, an⟩
      replace h := flowK_go a7
      try dsimp only at h V an
      refine (show At _ _ _ [(0, a), (5, vi aU)] _ from ?_)
      refine At.inBlockHit ?_
      obtain ⟨cy, aW, bK⟩ := OwnSl.rlb 1004 rfl an
      exact At.join (σ := (List api_Pair × Int × Own)) (cx, aU, cy) ⟨some1 h, (tr_ (su_ V z) (su_ aW z)), bK⟩ (.cons z (.cons z .nil))
    ·rintro ⟨dt, cW, du⟩ dm ⟨rfl, ao, af⟩
     replace h := cg
     try dsimp only at h ao af
     refine (show At _ _ _ [(0, a), (5, vi cW)] _ from ?_)
     refine th (sq (rg (wY (ym z) z (wY (ym z) z ?_))))
     obtain ⟨c7, aX, h⟩ := bnd h
     refine WL.sliceTail ty33 ty59 z z af aX z ?_
     intro dn bL
     refine WL.clearTail (u := (api_Pair.mk [] [])) (by decide) ty33 ty59 z bL z (by decide) af ⟨[vs []], [vs []], z, z, z⟩ ?_
     intro c8 aY bM
     refine nl (th (sq (rg (wY (ym z) z (wY (ym z) z ?_)))))
     obtain ⟨cz, bO, h⟩ := bnd h
     refine WL.sliceOwn ty33 ty59 z z z bM bO z ?_
     intro cA bP
     refine wY (ya z) z (nl (th (rt ?_)))
     obtain ⟨cC, aZ, bQ⟩ := OwnSl.rlb 1006 rfl bP
     exact At.res (.inl z) z (.tmp z .nil) ⟨(cz, cC, cA), ⟨some1 h, (tr_ (su_ r z) (tr_ (su_ ao z) (tr_ (su_ aY z) (su_ aZ z)))), bQ⟩, z⟩
 ·rintro ⟨dw, cX, bW⟩ cD ⟨rfl, ap, a2⟩
  replace h := b1
  try dsimp only at h ap a2
  refine (show WL _ _ _ _ _ ((8, bW) :: _) _ from ?_)
  refine wY (ya z) z (nl (th (rt ?_)))
  obtain rfl := some1 h
  have aq : Stp [12, 14, 1001, 1002, 1003, 1004] (Lg.O0 A) w cX cD := (tr_ (su_ ah z) (tr_ (su_ G z) (su_ ap z)))
  exact At.res (.inl z) z (.tmp z .nil) ⟨bW, z, (se_ aq z z), (OwnSl.outF a2 aq low0 z)⟩
theorem c_relabel_rule_turn {A : Nat → Prop} {v0_5 : Value} {a0 : relabel_rule} {v1_1 : Value} {v1_13 : Value} {v1_15 : Value} {a1 : api_Point} {b1 : Nat} {w : World} (hs0_5 : Pr rep_glob_Glob 96 w A v0_5 a0.g) (hs1_1 : Row rep_api_Pair 59 w v1_1 a1.Attrs) (hs1_13 : Row Rep.u 34 w v1_13 a1.Hist.Pos.Counts) (hs1_15 : Row Rep.u 34 w v1_15 a1.Hist.Neg.Counts) (hb1 : w.heap[b1]? = some (.cells (List.toArray (cp a1 v1_1 v1_13 v1_15)) 41 (0, 0))) (hne0_1 : ob v1_1 ≠ some b1) (hne0_2 : ob v1_13 ≠ some b1) (hne0_3 : ob v1_15 ≠ some b1) (hne1_2 : ∀ k, ob v1_1 = some k → ob v1_13 ≠ some k) (hne1_3 : ∀ k, ob v1_1 = some k → ob v1_15 ≠ some k) (hne2_3 : ∀ k, ob v1_13 = some k → ob v1_15 ≠ some k) (hA : ∀ k, A k → k ≠ b1 ∧ ob v1_1 ≠ some k ∧ ob v1_13 ≠ some k ∧ ob v1_15 ≠ some k) {r0 : Bool} {q1 : api_Point} (h : relabel_rule_turn a0 a1 = some (r0, q1)) : Rets Tryd.prog 57 [ag [vi a0.Rule.Kind, vs a0.Rule.Key, vs a0.Rule.Glob, vs a0.Rule.To, vs a0.Rule.Val, v0_5], pt b1 0] w (fun v w' => ∃ (a5 : Value) (ao : Value) (ap : Value), v = vB r0 ∧ Mod (fun k => k = b1 ∨ ob v1_1 = some k ∨ ob v1_13 = some k ∨ ob v1_15 = some k) w w' ∧ RowG rep_api_Pair 59 w w' v1_1 a5 q1.Attrs ∧ RowG Rep.u 34 w w' v1_13 ao q1.Hist.Pos.Counts ∧ RowG Rep.u 34 w w' v1_15 ap q1.Hist.Neg.Counts ∧ w'.heap[b1]? = some (.cells (List.toArray (cp q1 a5 ao ap)) 41 (0, 0)) ∧ (∀ k, ob a5 = some k → ob ao ≠ some k) ∧ (∀ k, ob a5 = some k → ob ap ≠ some k) ∧ (∀ k, ob ao = some k → ob ap ≠ some k)) := by
 unfold relabel_rule_turn at h
 refine Rets.enter Tryd.func57 z z ?_
 have c6 : Pr rep_glob_Glob 96 w (imm (Lg.OB b1 3 (Lg.OV v1_1 4 (Lg.OV v1_13 5 (Lg.OV v1_15 6 (Lg.O0 A)))))) v0_5 a0.g := (Pr.OB (Pr.OV (Pr.OV (Pr.OV (Pr.start hs0_5) (fun k hk => (hA k (O0_A k hk)).2.2.2)) (fun k hk => (hA k ((aV (ℓ := 6) O0_A z) k hk)).2.2.1)) (fun k hk => (hA k ((aV (ℓ := 5) (aV (ℓ := 6) O0_A z) z) k hk)).2.1)) (fun k hk => (hA k ((aV (ℓ := 4) (aV (ℓ := 5) (aV (ℓ := 6) O0_A z) z) z) k hk)).1))
 have ja : OwnSl 4 rep_api_Pair 59 (Lg.OB b1 3 (Lg.OV v1_1 4 (Lg.OV v1_13 5 (Lg.OV v1_15 6 (Lg.O0 A))))) w v1_1 a1.Attrs := Row.start flat_api_Pair hs1_1 (fun k hk => ((if_neg (fun (e : k = b1) => hne0_1 (e ▸ hk))).trans (if_pos hk)))
 have jb : OwnSl 5 Rep.u 34 (Lg.OB b1 3 (Lg.OV v1_1 4 (Lg.OV v1_13 5 (Lg.OV v1_15 6 (Lg.O0 A))))) w v1_13 a1.Hist.Pos.Counts := Row.start Flat.u hs1_13 (fun k hk => ((if_neg (fun (e : k = b1) => hne0_2 (e ▸ hk))).trans ((if_neg (fun (e : ob v1_1 = some k) => hne1_2 k e hk)).trans (if_pos hk))))
 have jc : OwnSl 6 Rep.u 34 (Lg.OB b1 3 (Lg.OV v1_1 4 (Lg.OV v1_13 5 (Lg.OV v1_15 6 (Lg.O0 A))))) w v1_15 a1.Hist.Neg.Counts := Row.start Flat.u hs1_15 (fun k hk => ((if_neg (fun (e : k = b1) => hne0_3 (e ▸ hk))).trans ((if_neg (fun (e : ob v1_1 = some k) => hne1_3 k e hk)).trans ((if_neg (fun (e : ob v1_13 = some k) => hne2_3 k e hk)).trans (if_pos hk)))))
 have jd : Blk 3 (Lg.OB b1 3 (Lg.OV v1_1 4 (Lg.OV v1_13 5 (Lg.OV v1_15 6 (Lg.O0 A))))) w b1 41 (cp a1 v1_1 v1_13 v1_15) := ⟨(if_pos z), hb1⟩
 refine (show WC _ _ _ _ [(0, ag [vi a0.Rule.Kind, vs a0.Rule.Key, vs a0.Rule.Glob, vs a0.Rule.To, vs a0.Rule.Val, v0_5]), (1, pt b1 0)] _ from ?_)
 refine sq (rg ?_)
 have je := h
 obtain ⟨c7, rfl, _⟩ := c6.isPtr
 have h := je
 refine WL.box (O := (Lg.OB b1 3 (Lg.OV v1_1 4 (Lg.OV v1_13 5 (Lg.OV v1_15 6 (Lg.O0 A)))))) 11 [vi a0.Rule.Kind, vs a0.Rule.Key, vs a0.Rule.Glob, vs a0.Rule.To, vs a0.Rule.Val, (Value.pointer c7)] z z z ?_
 intro F i9 lX p jf
 refine wY (ya z) z (nl (th (sq (WC.draw 4 i9 fmix (by kernel_rfl) ?_))))
 intro lY o
 have c8 := jf.st o z
 refine WS.y (yL ty73 z z (c8.cells 0 [vi a0.Rule.Kind, vs a0.Rule.Key, vs a0.Rule.Glob, vs a0.Rule.To, vs a0.Rule.Val, (Value.pointer c7)] z) z) z (WS.y (ym z) z (WS.y (yn z) z ?_))
 have P := (jd.st p z).st o z
 refine WS.y (yL ty41 z z (P.cells 0 (cp a1 v1_1 v1_13 v1_15) z) z) z (WS.tail ?_)
 have b6 := (c6.i p z z).i o z z
 have Q := (ja.st p z z z).st o z z z
 have S := (jb.st p z z z).st o z z z
 have T := (jc.st p z z z).st o z z z
 obtain ⟨cy, jl, h⟩ := bnd h
 refine WL.call (vals := [ag [vi a0.Rule.Kind, vs a0.Rule.Key, vs a0.Rule.Glob, vs a0.Rule.To, vs a0.Rule.Val, (Value.pointer c7)], ag (cp a1 v1_1 v1_13 v1_15)]) kok81 z z (c_relabel_rule_holds (A := fun _ => True) (a0 := a0) (a1 := a1) (Pr.all b6) (Q.src.sl) (S.src.sl) (T.src.sl) jl) ?_
 rintro lZ a6 ⟨rfl, jm⟩
 obtain ⟨W, k1, k2, a⟩ := adoptE i9 (fun k => 1) jm
 refine wY (ya z) z (nl (th (sq (sq (rg (wY (yf fo73_0 z) z (wY (yf fo28_0 z) z ?_)))))))
 have ah := c8.st a z
 refine wY (yl ty3 z z (ah.cell 0 _ z)) z (nl (th (WC.block (sq (rg (wY (Y.eql_i z z) z ?_))))))
 obtain ⟨mN, jn, h⟩ := lt1 h
 refine WL.yE (ya z) (congrArg vB jn.symm) z (nl (th ?_))
 rcases cnd h with ⟨b7, h⟩ | ⟨b7, h⟩
 ·refine WC.condT' z b7 (sq (rg (wY (ym z) z (wY (ya z) z (nl (th (rt (At.inBlockR (At.thenR ?_)))))))))
  obtain ⟨rfl, rfl⟩ := tup2 h
  have a7 : Stp [] (Lg.OB b1 3 (Lg.OV v1_1 4 (Lg.OV v1_13 5 (Lg.OV v1_15 6 (Lg.O0 A))))) w W a6 := (tr_ (su_ p z) (tr_ (su_ o z) (su_ a z)))
  have jo := P.st a z
  have b8 := Q.st a z z z
  have b9 := S.st a z z z
  have ca := T.st a z z z
  exact At.res (.inl z) z (.tmp z .nil) ⟨v1_1, v1_13, v1_15, z, (Stp.modL a7 (sB (sV (sV sV1))) z z), (OwnSl.outG b8 a7 (lowB (lowV (lowV (lowV low0 z z) z z) z z) z z) (lsB (lbV (lnV (lnV (ln0 z) z) z)) z)), (OwnSl.outG b9 a7 (lowB (lowV (lowV (lowV low0 z z) z z) z z) z z) (lsB (lsV (lbV (lnV (ln0 z) z)) z) z)), (OwnSl.outG ca a7 (lowB (lowV (lowV (lowV low0 z z) z z) z z) z z) (lsB (lsV (lsV (lbV (ln0 z)) z) z) z)), jo.blk, (ne_own b8 b9 z), (ne_own b8 ca z), (ne_own b9 ca z)⟩
 ·refine WC.condF' z b7 (sq (rg (wY (Y.eql_i z z) z ?_)))
  obtain ⟨mO, jp, h⟩ := lt1 h
  refine WL.yE (ya z) (congrArg vB jp.symm) z (nl (th ?_))
  rcases cnd h with ⟨cb, h⟩ | ⟨cb, h⟩
  ·refine WC.condT' z cb (sq (rg (wY (ym z) z (wY (Y.not z) z ?_))))
   obtain ⟨mP, jq, h⟩ := lt1 h
   refine WL.yE (ya z) (congrArg vB jq.symm) z (nl (th (rt (At.inBlockR (At.thenR ?_)))))
   obtain ⟨rfl, rfl⟩ := tup2 h
   have a8 : Stp [] (Lg.OB b1 3 (Lg.OV v1_1 4 (Lg.OV v1_13 5 (Lg.OV v1_15 6 (Lg.O0 A))))) w W a6 := (tr_ (su_ p z) (tr_ (su_ o z) (su_ a z)))
   have jr := P.st a z
   have cc := Q.st a z z z
   have cd := S.st a z z z
   have ce := T.st a z z z
   exact At.res (.inl z) z (.tmp z .nil) ⟨v1_1, v1_13, v1_15, z, (Stp.modL a8 (sB (sV (sV sV1))) z z), (OwnSl.outG cc a8 (lowB (lowV (lowV (lowV low0 z z) z z) z z) z z) (lsB (lbV (lnV (lnV (ln0 z) z) z)) z)), (OwnSl.outG cd a8 (lowB (lowV (lowV (lowV low0 z z) z z) z z) z z) (lsB (lsV (lbV (lnV (ln0 z) z)) z) z)), (OwnSl.outG ce a8 (lowB (lowV (lowV (lowV low0 z z) z z) z z) z z) (lsB (lsV (lsV (lbV (ln0 z)) z) z) z)), jr.blk, (ne_own cc cd z), (ne_own cc ce z), (ne_own cd ce z)⟩
  ·refine WC.condF' z cb (sq (rg (wY (Y.eql_i z z) z ?_)))
   obtain ⟨mQ, js, h⟩ := lt1 h
   refine WL.yE (ya z) (congrArg vB js.symm) z (nl (th ?_))
   rcases cnd h with ⟨cf, h⟩ | ⟨cf, h⟩
   ·refine WC.condT' z cf (sq (rg (wY (ym z) z (nl (th ?_)))))
    rcases cnd h with ⟨cg, h⟩ | ⟨cg, h⟩
    ·refine WC.condT' z cg (WC.drawH [12, 13, 14, 15, 1001] [0, 1, 2, 3, 4, 5, 6, 7, 8, 9, 10, 11, 12, 13, 14, 15, 16, 17, 18, 19] W 21 fmix z (by kernel_rfl) ?_)
     intro jt E
     refine WD.y 0 z (by kernel_rfl) (fun _ _ _ => ym z) z (WD.y 1 z (by kernel_rfl) (fun _ _ _ => ym z) z (WD.y 2 z (by kernel_rfl) (fun _ _ _ => yn z) z (WD.y 3 z (by kernel_rfl) (fun _ _ _ => yf fo41_1 z) z (WD.y 4 z (by kernel_rfl) (fun l0 mR ed => have ju := P.st a z; have jv := ju.st E z; have jw := jv.st ed z; yl ty33 z z (jw.cell 1 _ z)) z (WD.y 5 z (by kernel_rfl) (fun _ _ _ => yf fo73_0 z) z (WD.y 6 z (by kernel_rfl) (fun _ _ _ => yf fo28_3 z) z (WD.y 7 z (by kernel_rfl) (fun l1 mS ee => have jx := ah.st E z; have jy := jx.st ee z; yl ty9 z z (jy.cell 3 _ z)) z (WD.y 9 z (by kernel_rfl) (fun _ _ _ => yf fo73_0 z) z (WD.y 10 z (by kernel_rfl) (fun _ _ _ => yf fo28_3 z) z ?_)))))))))
     refine WD.y 11 z (by kernel_rfl) (fun k8 l2 c9 => have ef := ah.st E z; have eg := ef.st c9 z; yl ty9 z z (eg.cell 3 _ z)) z (WD.y 12 z (by kernel_rfl) (fun _ _ _ => yf fo73_0 z) z (WD.y 13 z (by kernel_rfl) (fun _ _ _ => yf fo28_4 z) z (WD.y 14 z (by kernel_rfl) (fun k9 l3 da => have eh := ah.st E z; have ei := eh.st da z; yl ty9 z z (ei.cell 4 _ z)) z (WD.y 15 z (by kernel_rfl) (fun _ _ _ => yb (vals := [(0, vs a0.Rule.To), (1, vs a0.Rule.Val)]) (cells := [vs a0.Rule.To, vs a0.Rule.Val]) (fe_ z) (by kernel_rfl)) z ?_))))
     obtain ⟨jz, h, ej⟩ := bnd h
     refine WD.join (σ := (List api_Pair × List api_Pair × Own × Value × Value)) (f' := 4) [16, 15, 14, 13, 12, 11, 10, 9, 8, 7, 6, 5, 4, 3, 2, 1, 0] (fun x O' w' => (x.1, x.2.1) = jz ∧ Stp [12, 13, 14, 15] W jt x.2.2.1 w' ∧ OwnSl 1001 rep_api_Pair 59 x.2.2.1 w' x.2.2.2.1 x.1 ∧ OwnSl 1002 rep_api_Pair 59 x.2.2.1 w' x.2.2.2.2 x.2.1 ∧ x.2.2.1 = O') (fun x => [(26, pt b1 0), (34, x.2.2.2.1), (42, x.2.2.2.2)]) (fun cz => ?_) ?_
     ·refine WD.heavy2 8 16 z z (by kernel_rfl) ?_ ?_
      ·have em := (Q.st a z z z).st E z z z
       obtain ⟨db, en, h⟩ := bnd h
       refine WL.call (vals := [v1_1, vs a0.Rule.To]) kok82 z z (c_relabel_without (A := fun _ => True) (em.src.sl) en) ?_
       rintro a9 eo ⟨_, rfl, ep, jA⟩
       obtain ⟨dc, kN, cY, bY⟩ := adoptE W (fun k => if ob a9 = some k then 12 else 1) ep
       have er : OwnSl 12 rep_api_Pair 59 dc eo a9 db := RowF.adopt 12 flat_api_Pair jA cY (fun k hk => if_pos hk)
       refine nl (At.dq (su_ bY z) (WD.heavy 16 z (by kernel_rfl) (WL.buildSlice (O := dc) (R := rep_api_Pair) (vals := [(0, ag [vs a0.Rule.To, vs a0.Rule.Val])]) 13 [vs a0.Rule.To, vs a0.Rule.Val] (xs := [(api_Pair.mk a0.Rule.To a0.Rule.Val)]) (by decide) ty33 ty59 (by decide) (by decide) (fe_ z) (by kernel_rfl) z ⟨[vs a0.Rule.To, vs a0.Rule.Val], [], z, ⟨[vs a0.Rule.To], [vs a0.Rule.Val], z, z, z⟩, z⟩ z ?_)))
       intro jB l4 la aE es
       refine nl (At.dq (su_ aE z) ?_)
       have et := er.st aE z z z
       obtain ⟨l5, aF, eu⟩ := OwnSl.rlb 1001 rfl et
       have ew := es.st aF z z z
       obtain ⟨jC, aG, ex⟩ := OwnSl.rlb 1002 rfl ew
       have ey := eu.st aG z z z
       refine WD.own (tr_ (su_ aF z) (su_ aG z)) (WD.perm _ [16, 15, 14, 13, 12, 11, 10, 9, 8, 7, 6, 5, 4, 3, 2, 1, 0] (by kernel_rfl) ?_)
       exact cz (db, [(api_Pair.mk a0.Rule.To a0.Rule.Val)], jC, a9, jB) _ _ _ ⟨some1 h, (tr_ (su_ bY z) (tr_ (su_ aE z) (tr_ (su_ aF z) (su_ aG z)))), ey, ex, z⟩ (.cons z (.cons z (.cons z .nil)))
      ·try simp only [Option.bind_assoc] at h
       try simp only [Option.bind_some] at h
       refine WL.buildSlice (O := W) (R := rep_api_Pair) (vals := [(0, ag [vs a0.Rule.To, vs a0.Rule.Val])]) 14 [vs a0.Rule.To, vs a0.Rule.Val] (xs := [(api_Pair.mk a0.Rule.To a0.Rule.Val)]) (by decide) ty33 ty59 (by decide) (by decide) (fe_ z) (by kernel_rfl) z ⟨[vs a0.Rule.To, vs a0.Rule.Val], [], z, ⟨[vs a0.Rule.To], [vs a0.Rule.Val], z, z, z⟩, z⟩ z ?_
       intro jD jE lb aH ez
       refine nl (At.dq (su_ aH z) (WD.heavy 8 z (by kernel_rfl) ?_))
       have eC := ((Q.st a z z z).st E z z z).st aH z z z
       obtain ⟨dd, eD, h⟩ := bnd h
       refine WL.call (vals := [v1_1, vs a0.Rule.To]) kok82 z z (c_relabel_without (A := fun _ => True) (eC.src.sl) eD) ?_
       rintro ba eE ⟨_, rfl, eF, jF⟩
       obtain ⟨jG, kO, cZ, aI⟩ := adoptE jE (fun k => if ob ba = some k then 15 else 1) eF
       have eG : OwnSl 15 rep_api_Pair 59 jG eE ba dd := RowF.adopt 15 flat_api_Pair jF cZ (fun k hk => if_pos hk)
       refine nl (At.dq (su_ aI z) ?_)
       obtain ⟨l6, aJ, eH⟩ := OwnSl.rlb 1001 rfl eG
       have eJ := (ez.st aI z z z).st aJ z z z
       obtain ⟨jH, aK, eK⟩ := OwnSl.rlb 1002 rfl eJ
       have eL := eH.st aK z z z
       refine WD.own (tr_ (su_ aJ z) (su_ aK z)) (WD.perm _ [16, 15, 14, 13, 12, 11, 10, 9, 8, 7, 6, 5, 4, 3, 2, 1, 0] (by kernel_rfl) ?_)
       exact cz (dd, [(api_Pair.mk a0.Rule.To a0.Rule.Val)], jH, ba, jD) _ _ _ ⟨some1 h, (tr_ (su_ aH z) (tr_ (su_ aI z) (tr_ (su_ aJ z) (su_ aK z)))), eL, eK, z⟩ (.cons z (.cons z (.cons z .nil)))
     ·rintro ⟨l7, l8, l9, jI, jJ⟩ _ lc ⟨rfl, X, cA, cC, rfl⟩
      replace h := ej
      try dsimp only at h X cA cC
      refine (show WD _ _ _ _ _ _ _ _ [(26, pt b1 0), (34, jI), (42, jJ)] _ _ from ?_)
      refine WD.heavy 17 z (by kernel_rfl) ?_
      obtain ⟨ld, de, h⟩ := bnd h
      refine WL.append (by decide) ty33 ty59 z (by decide) z z cA cC.src de z ?_
      intro ma jK lf Z cD
      refine nl (At.dq (su_ Z z) (WD.y 18 z (by kernel_rfl) (fun _ _ _ => yn z) z (WD.y 19 z (by kernel_rfl) (fun _ _ _ => yf fo41_1 z) z (WD.phase [3] [0, 1, 2, 3, 4, 5, 6, 7, 8, 9, 10, 11, 12, 13, 14, 15, 16, 17, 18, 19, 20] (by kernel_rfl) (by kernel_rfl) (WD.heavy 20 z (by kernel_rfl) ?_)))))
      have eM := h
      obtain ⟨ch, ci, cj, rfl⟩ := cD.shape
      have h := eM
      have eQ := (((P.st a z).st E z).st X z).st Z z
      refine WL.store (v := (vl ch ci cj)) (cells' := (cp a1 (vl ch ci cj) v1_13 v1_15)) ty33 z z eQ z (le_ z) z z ?_
      intro eR aa eS
      refine nl (At.dq (su_ aa z) (WD.done_ (by kernel_rfl) (At.inBlock (th (sq (rg (wY (ya z) z (nl (th ?_)))))))))
      refine rt ?_
      obtain ⟨rfl, rfl⟩ := tup2 h
      have aq : Stp [3, 12, 13, 14, 15, 1001] (Lg.OB b1 3 (Lg.OV v1_1 4 (Lg.OV v1_13 5 (Lg.OV v1_15 6 (Lg.O0 A))))) w jK eR := (tr_ (su_ p z) (tr_ (su_ o z) (tr_ (su_ a z) (tr_ (su_ E z) (tr_ (su_ X z) (tr_ (su_ Z z) (su_ aa z)))))))
      have bb := cD.st aa z z z
      have bc := ((((S.st a z z z).st E z z z).st X z z z).st Z z z z).st aa z z z
      have bd := ((((T.st a z z z).st E z z z).st X z z z).st Z z z z).st aa z z z
      exact At.res (.inl z) z (.tmp z .nil) ⟨(vl ch ci cj), v1_13, v1_15, z, (Stp.modL aq (sB (sV (sV sV1))) z z), (RowF.g (OwnSl.outF bb aq (lowB (lowV (lowV (lowV low0 z z) z z) z z) z z) z)), (OwnSl.outG bc aq (lowB (lowV (lowV (lowV low0 z z) z z) z z) z z) (lsB (lsV (lbV (lnV (ln0 z) z)) z) z)), (OwnSl.outG bd aq (lowB (lowV (lowV (lowV low0 z z) z z) z z) z z) (lsB (lsV (lsV (lbV (ln0 z)) z) z) z)), eS.blk, (ne_own bb bc z), (ne_own bb bd z), (ne_own bc bd z)⟩
    ·refine WC.condF' z cg (sk (At.inBlock (th (sq (rg (wY (ya z) z (nl (th (rt ?_)))))))))
     obtain ⟨rfl, rfl⟩ := tup2 h
     have ar : Stp [] (Lg.OB b1 3 (Lg.OV v1_1 4 (Lg.OV v1_13 5 (Lg.OV v1_15 6 (Lg.O0 A))))) w W a6 := (tr_ (su_ p z) (tr_ (su_ o z) (su_ a z)))
     have e1 := P.st a z
     have bf := Q.st a z z z
     have bg := S.st a z z z
     have bh := T.st a z z z
     exact At.res (.inl z) z (.tmp z .nil) ⟨v1_1, v1_13, v1_15, z, (Stp.modL ar (sB (sV (sV sV1))) z z), (OwnSl.outG bf ar (lowB (lowV (lowV (lowV low0 z z) z z) z z) z z) (lsB (lbV (lnV (lnV (ln0 z) z) z)) z)), (OwnSl.outG bg ar (lowB (lowV (lowV (lowV low0 z z) z z) z z) z z) (lsB (lsV (lbV (lnV (ln0 z) z)) z) z)), (OwnSl.outG bh ar (lowB (lowV (lowV (lowV low0 z z) z z) z z) z z) (lsB (lsV (lsV (lbV (ln0 z)) z) z) z)), e1.blk, (ne_own bf bg z), (ne_own bf bh z), (ne_own bg bh z)⟩
   ·refine WC.condF' z cf (sq (rg (wY (Y.eql_i z z) z ?_)))
    obtain ⟨mb, e2, h⟩ := lt1 h
    refine WL.yE (ya z) (congrArg vB e2.symm) z (nl (th ?_))
    rcases cnd h with ⟨bi, h⟩ | ⟨bi, h⟩
    ·refine WC.condT' z bi (sq (WC.draw 7 W fmix (by kernel_rfl) ?_))
     intro lg D
     refine WS.y (ym z) z (WS.y (yn z) z (WS.y (yf fo41_1 z) z ?_))
     have ai := (P.st a z).st D z
     refine WS.y (yl ty33 z z (ai.cell 1 _ z)) z (WS.y (yf fo73_0 z) z (WS.y (yf fo28_1 z) z ?_))
     have au := ah.st D z
     refine WS.y (yl ty9 z z (au.cell 1 _ z)) z (WS.tail ?_)
     have bj := (Q.st a z z z).st D z z z
     obtain ⟨al, e7, h⟩ := bnd h
     refine WL.call (vals := [v1_1, vs a0.Rule.Key]) kok83 z z (c_relabel_find (A := fun _ => True) (bj.src.sl) e7) ?_
     rintro lh cE ⟨rfl, e8⟩
     obtain ⟨ck, kP, kQ, m⟩ := adoptE W (fun k => 1) e8
     refine wY (ya z) z (nl (th (sq (rg (wY (ym z) z (wY (Y.geq_i z z) z (wY (ym z) z ?_)))))))
     refine WL.cut 2 (σ := Unit) (fun _ w' => cE = w') (fun _ => [(1, pt b1 0), (2, pt F 0), (6, vi al), (60, vB ((decide (0 ≤ al)) && cy))]) ?_ ?_
     ·refine WL.part 58 z (fun bk => ?_) (fun bk => ?_)
      ·refine ug z z (wY (ym z) z (wY (Y.pick (b := true) z z) z (WL.ren (v' := vB ((decide (0 ≤ al)) && cy)) 60 z (congrArg vB (andT bk)) ?_)))
       exact nl (At.join () z (.cons z (.cons z (.cons z (.cons z .nil)))))
      ·refine WL.gS z z z z (wY (Y.pick (b := false) z z) z (WL.ren (v' := vB ((decide (0 ≤ al)) && cy)) 60 z (congrArg vB (andF bk)) ?_))
       exact nl (At.join () z (.cons z (.cons z (.cons z (.cons z .nil)))))
     ·rintro _ _ rfl
      refine (show WL _ _ _ _ _ [(1, pt b1 0), (2, pt F 0), (6, vi al), (60, vB ((decide (0 ≤ al)) && cy))] _ from ?_)
      refine nl (th ?_)
      rcases cnd h with ⟨bl, h⟩ | ⟨bl, h⟩
      ·refine WC.condT' z bl (sq (WC.drawH [] [0, 1, 2, 3, 4, 5, 6, 7, 8, 9, 10, 11, 12] ck 14 fmix z (by kernel_rfl) ?_))
       intro li q
       refine WD.y 0 z (by kernel_rfl) (fun _ _ _ => yf fo73_0 z) z (WD.y 1 z (by kernel_rfl) (fun _ _ _ => yf fo28_3 z) z (WD.y 2 z (by kernel_rfl) (fun lj mc df => have e9 := au.st m z; have fa := e9.st q z; have fc := fa.st df z; yl ty9 z z (fc.cell 3 _ z)) z (WD.y 3 z (by kernel_rfl) (fun _ _ _ => ym z) z (WD.y 4 z (by kernel_rfl) (fun _ _ _ => yn z) z (WD.y 5 z (by kernel_rfl) (fun _ _ _ => yf fo41_1 z) z (WD.y 6 z (by kernel_rfl) (fun ll md dg => have fd := ai.st m z; have fe := fd.st q z; have ff := fe.st dg z; yl ty33 z z (ff.cell 1 _ z)) z (WD.y 7 z (by kernel_rfl) (fun _ _ _ => ym z) z ?_)))))))
       obtain ⟨j, fg, h⟩ := bnd h
       have av := (bj.st m z z z).st q z z z
       obtain ⟨me, k3, lm, cF, fi, fj, bm, dh⟩ := OwnSl.at av fg
       obtain ⟨_, _, rfl, rfl, rfl⟩ := dh
       replace bm : CellsAt _ _ _ [vs j.Key, vs j.Val] := bm
       have di := CAt.own av cF bm
       refine WD.y 8 z (by kernel_rfl) (fun _ _ _ => Y.indexAddr ty33 ty59 z cF z fi fj) z (WD.y 9 z (by kernel_rfl) (fun _ _ _ => yf fo59_1 z) z (WD.y 10 z (by kernel_rfl) (fun ln mf dj => have fk := di.st dj z; yl ty9 z z (fk.at_.sub 1 [vs j.Val] z)) z (WD.y 11 z (by kernel_rfl) (fun _ _ _ => yb (vals := [(0, vs a0.Rule.To), (1, vs j.Val)]) (cells := [vs a0.Rule.To, vs j.Val]) (fe_ z) (by kernel_rfl)) z (WD.heavy 12 z (by kernel_rfl) (WL.alloc (O := ck) 16 [vs [], vs []] ty59 z z ?_)))))
       intro mg bn lo r fl
       refine nl (At.dq (su_ r z) (WD.phase [16] [0, 1, 2, 3, 4, 5, 6, 7, 8, 9, 10, 11, 12, 13] (by kernel_rfl) (by kernel_rfl) (WD.heavy 13 z (by kernel_rfl) (WL.store (v := ag [vs a0.Rule.To, vs j.Val]) (cells' := [vs a0.Rule.To, vs j.Val]) ty59 z z fl z (le_ z) z z ?_))))
       intro lp t fm
       refine nl (At.dq (su_ t z) (WD.done_ (by kernel_rfl) (th (WC.drawH [18, 19, 20, 21, 22, 24, 1003, 1004, 1005] [0, 1, 2, 3, 4, 5, 6, 7, 8, 9, 10, 11, 12, 13, 14, 15, 16, 17] bn 19 fmix z (by kernel_rfl) ?_))))
       intro fn C
       refine WD.y 0 z (by kernel_rfl) (fun _ _ _ => ym z) z (WD.y 1 z (by kernel_rfl) (fun _ _ _ => ym z) z (WD.y 2 z (by kernel_rfl) (fun _ _ _ => yn z) z (WD.y 3 z (by kernel_rfl) (fun _ _ _ => yf fo41_1 z) z (WD.y 4 z (by kernel_rfl) (fun lq mh dk => have fo := ai.st m z; have fp := fo.st q z; have fq := fp.st r z; have fs := fq.st t z; have ft := fs.st C z; have fu := ft.st dk z; yl ty33 z z (fu.cell 1 _ z)) z (WD.y 5 z (by kernel_rfl) (fun _ _ _ => yf fo73_0 z) z (WD.y 6 z (by kernel_rfl) (fun _ _ _ => yf fo28_1 z) z (WD.y 7 z (by kernel_rfl) (fun lr mi dl => have fw := au.st m z; have fx := fw.st q z; have fy := fx.st r z; have fz := fy.st t z; have fA := fz.st C z; have fB := fA.st dl z; yl ty9 z z (fB.cell 1 _ z)) z (WD.y 9 z (by kernel_rfl) (fun _ _ _ => yf fo73_0 z) z (WD.y 10 z (by kernel_rfl) (fun _ _ _ => yf fo28_3 z) z ?_)))))))))
       refine WD.y 11 z (by kernel_rfl) (fun ls mj dm => have fC := au.st m z; have fD := fC.st q z; have fF := fD.st r z; have fG := fF.st t z; have fH := fG.st C z; have fI := fH.st dm z; yl ty9 z z (fI.cell 3 _ z)) z (WD.y 13 z (by kernel_rfl) (fun lu ml dn => have fJ := fm.st C z; have fK := fJ.st dn z; yL ty59 z z (fK.cells 0 [vs a0.Rule.To, vs j.Val] z) z) z ?_)
       obtain ⟨jL, h, fL⟩ := bnd h
       refine WD.join (σ := (List api_Pair × List api_Pair × Own × Value × Value)) (f' := 4) [14, 13, 12, 11, 10, 9, 8, 7, 6, 5, 4, 3, 2, 1, 0] (fun x O' w' => (x.1, x.2.1) = jL ∧ Stp [18, 19, 20, 21, 22, 24, 1003, 1004] bn fn x.2.2.1 w' ∧ OwnSl 1005 rep_api_Pair 59 x.2.2.1 w' x.2.2.2.1 x.1 ∧ OwnSl 1006 rep_api_Pair 59 x.2.2.1 w' x.2.2.2.2 x.2.1 ∧ x.2.2.1 = O') (fun x => [(73, pt b1 0), (85, x.2.2.2.1), (87, x.2.2.2.2)]) (fun cG => ?_) ?_
       ·refine WD.heavy2 8 14 z z (by kernel_rfl) ?_ ?_
        ·have fP := ((av.st r z z z).st t z z z).st C z z z
         obtain ⟨jM, fQ, h⟩ := bnd h
         refine WL.call (vals := [v1_1, vs a0.Rule.Key]) kok82 z z (c_relabel_without (A := fun _ => True) (fP.src.sl) fQ) ?_
         rintro ax cH ⟨_, rfl, fR, jN⟩
         obtain ⟨bo, kR, c0, bZ⟩ := adoptE bn (fun k => if ob ax = some k then 17 else 1) fR
         have cI : OwnSl 17 rep_api_Pair 59 bo cH ax jM := RowF.adopt 17 flat_api_Pair jN c0 (fun k hk => if_pos hk)
         refine nl (At.dq (su_ bZ z) ?_)
         obtain ⟨jO, h, fT⟩ := bnd h
         refine WD.join (σ := (List api_Pair × List api_Pair × Own × Value × Value)) (f' := 4) [14, 13, 12, 11, 10, 9, 8, 7, 6, 5, 4, 3, 2, 1, 0] (fun x O' w' => (x.1, x.2.1) = jO ∧ Stp [18, 19, 20, 21] bo cH x.2.2.1 w' ∧ OwnSl 1003 rep_api_Pair 59 x.2.2.1 w' x.2.2.2.1 x.1 ∧ OwnSl 1004 rep_api_Pair 59 x.2.2.1 w' x.2.2.2.2 x.2.1 ∧ x.2.2.1 = O') (fun x => [(73, pt b1 0), (85, x.2.2.2.1), (87, x.2.2.2.2)]) (fun cJ => ?_) ?_
         ·refine WD.heavy2 12 14 z z (by kernel_rfl) ?_ ?_
          ·obtain ⟨dp, fU, h⟩ := bnd h
           refine WL.call (vals := [ax, vs a0.Rule.To]) kok82 z z (c_relabel_without (A := fun _ => True) (cI.src.sl) fU) ?_
           rintro bp fV ⟨_, rfl, fY, jP⟩
           obtain ⟨dr, kS, c1, b0⟩ := adoptE bo (fun k => if ob bp = some k then 18 else 1) fY
           have f0 : OwnSl 18 rep_api_Pair 59 dr fV bp dp := RowF.adopt 18 flat_api_Pair jP c1 (fun k hk => if_pos hk)
           refine nl (At.dq (su_ b0 z) (WD.heavy 14 z (by kernel_rfl) (WL.buildSlice (O := dr) (R := rep_api_Pair) (vals := [(0, ag [vs a0.Rule.To, vs j.Val])]) 19 [vs a0.Rule.To, vs j.Val] (xs := [(api_Pair.mk a0.Rule.To j.Val)]) (by decide) ty33 ty59 (by decide) (by decide) (fe_ z) (by kernel_rfl) z ⟨[vs a0.Rule.To, vs j.Val], [], z, ⟨[vs a0.Rule.To], [vs j.Val], z, z, z⟩, z⟩ z ?_)))
           intro jQ mm lv aL f1
           refine nl (At.dq (su_ aL z) ?_)
           have f2 := f0.st aL z z z
           obtain ⟨mn, aM, f3⟩ := OwnSl.rlb 1003 rfl f2
           have f4 := f1.st aM z z z
           obtain ⟨jR, aN, f5⟩ := OwnSl.rlb 1004 rfl f4
           have f6 := f3.st aN z z z
           refine WD.own (tr_ (su_ aM z) (su_ aN z)) (WD.perm _ [14, 13, 12, 11, 10, 9, 8, 7, 6, 5, 4, 3, 2, 1, 0] (by kernel_rfl) ?_)
           exact cJ (dp, [(api_Pair.mk a0.Rule.To j.Val)], jR, bp, jQ) _ _ _ ⟨some1 h, (tr_ (su_ b0 z) (tr_ (su_ aL z) (tr_ (su_ aM z) (su_ aN z)))), f6, f5, z⟩ (.cons z (.cons z (.cons z .nil)))
          ·try simp only [Option.bind_assoc] at h
           try simp only [Option.bind_some] at h
           refine WL.buildSlice (O := bo) (R := rep_api_Pair) (vals := [(0, ag [vs a0.Rule.To, vs j.Val])]) 20 [vs a0.Rule.To, vs j.Val] (xs := [(api_Pair.mk a0.Rule.To j.Val)]) (by decide) ty33 ty59 (by decide) (by decide) (fe_ z) (by kernel_rfl) z ⟨[vs a0.Rule.To, vs j.Val], [], z, ⟨[vs a0.Rule.To], [vs j.Val], z, z, z⟩, z⟩ z ?_
           intro jS jT lw aO f7
           refine nl (At.dq (su_ aO z) (WD.heavy 12 z (by kernel_rfl) ?_))
           have f8 := cI.st aO z z z
           obtain ⟨ds, f9, h⟩ := bnd h
           refine WL.call (vals := [ax, vs a0.Rule.To]) kok82 z z (c_relabel_without (A := fun _ => True) (f8.src.sl) f9) ?_
           rintro bq ga ⟨_, rfl, gb, jU⟩
           obtain ⟨jV, kT, c2, aP⟩ := adoptE jT (fun k => if ob bq = some k then 21 else 1) gb
           have gc : OwnSl 21 rep_api_Pair 59 jV ga bq ds := RowF.adopt 21 flat_api_Pair jU c2 (fun k hk => if_pos hk)
           refine nl (At.dq (su_ aP z) ?_)
           obtain ⟨mo, aQ, gd⟩ := OwnSl.rlb 1003 rfl gc
           have gf := (f7.st aP z z z).st aQ z z z
           obtain ⟨jW, aR, gg⟩ := OwnSl.rlb 1004 rfl gf
           have gh := gd.st aR z z z
           refine WD.own (tr_ (su_ aQ z) (su_ aR z)) (WD.perm _ [14, 13, 12, 11, 10, 9, 8, 7, 6, 5, 4, 3, 2, 1, 0] (by kernel_rfl) ?_)
           exact cJ (ds, [(api_Pair.mk a0.Rule.To j.Val)], jW, bq, jS) _ _ _ ⟨some1 h, (tr_ (su_ aO z) (tr_ (su_ aP z) (tr_ (su_ aQ z) (su_ aR z)))), gh, gg, z⟩ (.cons z (.cons z (.cons z .nil)))
         ·rintro ⟨jX, jY, mp, dt, du⟩ _ lx ⟨rfl, b2, cK, cL, rfl⟩
          replace h := fT
          try dsimp only at h b2 cK cL
          refine (show WD _ _ _ _ _ _ _ _ [(73, pt b1 0), (85, dt), (87, du)] _ _ from ?_)
          obtain ⟨mq, aS, gi⟩ := OwnSl.rlb 1005 rfl cK
          have gj := cL.st aS z z z
          obtain ⟨jZ, aT, gk⟩ := OwnSl.rlb 1006 rfl gj
          have gl := gi.st aT z z z
          refine WD.own (tr_ (su_ aS z) (su_ aT z)) (WD.perm _ [14, 13, 12, 11, 10, 9, 8, 7, 6, 5, 4, 3, 2, 1, 0] (by kernel_rfl) ?_)
          exact cG (jX, jY, jZ, dt, du) _ _ _ ⟨some1 h, (tr_ (su_ bZ z) (tr_ (su_ b2 z) (tr_ (su_ aS z) (su_ aT z)))), gl, gk, z⟩ (.cons z (.cons z (.cons z .nil)))
        ·try simp only [Option.bind_assoc] at h
         try simp only [Option.bind_some] at h
         refine WL.buildSlice (O := bn) (R := rep_api_Pair) (vals := [(0, ag [vs a0.Rule.To, vs j.Val])]) 22 [vs a0.Rule.To, vs j.Val] (xs := [(api_Pair.mk a0.Rule.To j.Val)]) (by decide) ty33 ty59 (by decide) (by decide) (fe_ z) (by kernel_rfl) z ⟨[vs a0.Rule.To, vs j.Val], [], z, ⟨[vs a0.Rule.To], [vs j.Val], z, z, z⟩, z⟩ z ?_
         intro j0 j1 ly aU gm
         refine nl (At.dq (su_ aU z) (WD.heavy 8 z (by kernel_rfl) ?_))
         have gr := (((av.st r z z z).st t z z z).st C z z z).st aU z z z
         obtain ⟨j2, gs, h⟩ := bnd h
         refine WL.call (vals := [v1_1, vs a0.Rule.Key]) kok82 z z (c_relabel_without (A := fun _ => True) (gr.src.sl) gs) ?_
         rintro br gt ⟨_, rfl, gu, j3⟩
         obtain ⟨dw, kU, c3, aW⟩ := adoptE j1 (fun k => if ob br = some k then 23 else 1) gu
         have gw : OwnSl 23 rep_api_Pair 59 dw gt br j2 := RowF.adopt 23 flat_api_Pair j3 c3 (fun k hk => if_pos hk)
         refine nl (At.dq (su_ aW z) (WD.heavy 12 z (by kernel_rfl) ?_))
         obtain ⟨dx, gz, h⟩ := bnd h
         refine WL.call (vals := [br, vs a0.Rule.To]) kok82 z z (c_relabel_without (A := fun _ => True) (gw.src.sl) gz) ?_
         rintro bs gB ⟨_, rfl, gC, j4⟩
         obtain ⟨j5, kV, c4, aX⟩ := adoptE dw (fun k => if ob bs = some k then 24 else 1) gC
         have gE : OwnSl 24 rep_api_Pair 59 j5 gB bs dx := RowF.adopt 24 flat_api_Pair j4 c4 (fun k hk => if_pos hk)
         refine nl (At.dq (su_ aX z) ?_)
         obtain ⟨mr, aY, gG⟩ := OwnSl.rlb 1005 rfl gE
         have gJ := ((gm.st aW z z z).st aX z z z).st aY z z z
         obtain ⟨j6, aZ, gK⟩ := OwnSl.rlb 1006 rfl gJ
         have gL := gG.st aZ z z z
         refine WD.own (tr_ (su_ aY z) (su_ aZ z)) (WD.perm _ [14, 13, 12, 11, 10, 9, 8, 7, 6, 5, 4, 3, 2, 1, 0] (by kernel_rfl) ?_)
         exact cG (dx, [(api_Pair.mk a0.Rule.To j.Val)], j6, bs, j0) _ _ _ ⟨some1 h, (tr_ (su_ aU z) (tr_ (su_ aW z) (tr_ (su_ aX z) (tr_ (su_ aY z) (su_ aZ z))))), gL, gK, z⟩ (.cons z (.cons z (.cons z .nil)))
       ·rintro ⟨ms, mu, mv, j7, j8⟩ _ lA ⟨rfl, ab, cM, cN, rfl⟩
        replace h := fL
        try dsimp only at h ab cM cN
        refine (show WD _ _ _ _ _ _ _ _ [(73, pt b1 0), (85, j7), (87, j8)] _ _ from ?_)
        refine WD.heavy 15 z (by kernel_rfl) ?_
        obtain ⟨lB, dy, h⟩ := bnd h
        refine WL.append (by decide) ty33 ty59 z (by decide) z z cM cN.src dy z ?_
        intro mw j9 lC ac cO
        refine nl (At.dq (su_ ac z) (WD.y 16 z (by kernel_rfl) (fun _ _ _ => yn z) z (WD.y 17 z (by kernel_rfl) (fun _ _ _ => yf fo41_1 z) z (WD.phase [3] [0, 1, 2, 3, 4, 5, 6, 7, 8, 9, 10, 11, 12, 13, 14, 15, 16, 17, 18] (by kernel_rfl) (by kernel_rfl) (WD.heavy 18 z (by kernel_rfl) ?_)))))
        have gM := h
        obtain ⟨cl, cm, cn, rfl⟩ := cO.shape
        have h := gM
        have gW := ((((((ai.st m z).st q z).st r z).st t z).st C z).st ab z).st ac z
        refine WL.store (v := (vl cl cm cn)) (cells' := (cp a1 (vl cl cm cn) v1_13 v1_15)) ty33 z z gW z (le_ z) z z ?_
        intro gX ad gY
        refine nl (At.dq (su_ ad z) (WD.done_ (by kernel_rfl) (At.inBlock (th (sq (rg (wY (ya z) z (nl (th ?_)))))))))
        refine rt ?_
        obtain ⟨rfl, rfl⟩ := tup2 h
        have ay : Stp [3, 16, 18, 19, 20, 21, 22, 24, 1003, 1004, 1005] (Lg.OB b1 3 (Lg.OV v1_1 4 (Lg.OV v1_13 5 (Lg.OV v1_15 6 (Lg.O0 A))))) w j9 gX := (tr_ (su_ p z) (tr_ (su_ o z) (tr_ (su_ a z) (tr_ (su_ D z) (tr_ (su_ m z) (tr_ (su_ q z) (tr_ (su_ r z) (tr_ (su_ t z) (tr_ (su_ C z) (tr_ (su_ ab z) (tr_ (su_ ac z) (su_ ad z))))))))))))
        have bt := cO.st ad z z z
        have bu := (((((((((S.st a z z z).st D z z z).st m z z z).st q z z z).st r z z z).st t z z z).st C z z z).st ab z z z).st ac z z z).st ad z z z
        have bw := (((((((((T.st a z z z).st D z z z).st m z z z).st q z z z).st r z z z).st t z z z).st C z z z).st ab z z z).st ac z z z).st ad z z z
        exact At.res (.inl z) z (.tmp z .nil) ⟨(vl cl cm cn), v1_13, v1_15, z, (Stp.modL ay (sB (sV (sV sV1))) z z), (RowF.g (OwnSl.outF bt ay (lowB (lowV (lowV (lowV low0 z z) z z) z z) z z) z)), (OwnSl.outG bu ay (lowB (lowV (lowV (lowV low0 z z) z z) z z) z z) (lsB (lsV (lbV (lnV (ln0 z) z)) z) z)), (OwnSl.outG bw ay (lowB (lowV (lowV (lowV low0 z z) z z) z z) z z) (lsB (lsV (lsV (lbV (ln0 z)) z) z) z)), gY.blk, (ne_own bt bu z), (ne_own bt bw z), (ne_own bu bw z)⟩
      ·refine WC.condF' z bl (sk (At.inBlock (th (sq (rg (wY (ya z) z (nl (th (rt ?_)))))))))
       obtain ⟨rfl, rfl⟩ := tup2 h
       have az : Stp [] (Lg.OB b1 3 (Lg.OV v1_1 4 (Lg.OV v1_13 5 (Lg.OV v1_15 6 (Lg.O0 A))))) w ck cE := (tr_ (su_ p z) (tr_ (su_ o z) (tr_ (su_ a z) (tr_ (su_ D z) (su_ m z)))))
       have hi := ai.st m z
       have bx := bj.st m z z z
       have bz := ((S.st a z z z).st D z z z).st m z z z
       have bA := ((T.st a z z z).st D z z z).st m z z z
       exact At.res (.inl z) z (.tmp z .nil) ⟨v1_1, v1_13, v1_15, z, (Stp.modL az (sB (sV (sV sV1))) z z), (OwnSl.outG bx az (lowB (lowV (lowV (lowV low0 z z) z z) z z) z z) (lsB (lbV (lnV (lnV (ln0 z) z) z)) z)), (OwnSl.outG bz az (lowB (lowV (lowV (lowV low0 z z) z z) z z) z z) (lsB (lsV (lbV (lnV (ln0 z) z)) z) z)), (OwnSl.outG bA az (lowB (lowV (lowV (lowV low0 z z) z z) z z) z z) (lsB (lsV (lsV (lbV (ln0 z)) z) z) z)), hi.blk, (ne_own bx bz z), (ne_own bx bA z), (ne_own bz bA z)⟩
    ·refine WC.condF' z bi (sq (rg (wY (Y.eql_i z z) z ?_)))
     obtain ⟨mx, hp, h⟩ := lt1 h
     refine WL.yE (ya z) (congrArg vB hp.symm) z (nl (th ?_))
     rcases cnd h with ⟨bB, h⟩ | ⟨bB, h⟩
     ·refine WC.condT' z bB (rg (wY (ym z) z (wY (ym z) z (wY (yn z) z (wY (yf fo41_1 z) z ?_)))))
      have cP := P.st a z
      refine wY (yl ty33 z z (cP.cell 1 _ z)) z ?_
      have hq := Q.st a z z z
      obtain ⟨am, hr, h⟩ := bnd h
      refine WL.call (vals := [v1_1]) kok43 z z (c_slices_Clone_api_Pair_api_Pair (A := fun _ => True) (hq.src.sl) hr) ?_
      rintro d aj ⟨_, rfl, hs, ka⟩
      obtain ⟨an, kW, c5, G⟩ := adoptE W (fun k => if ob d = some k then 25 else 1) hs
      have aA : OwnSl 25 rep_api_Pair 59 an aj d am := RowF.adopt 25 flat_api_Pair ka c5 (fun k hk => if_pos hk)
      refine wY (Y.mkfunc (fv := []) (cv := [pt F 0]) z z) z ?_
      obtain ⟨kb, h, ht⟩ := bnd h
      refine WL.callJ (vals := [d, Value.func (.func 85) (List.toArray []) (List.toArray [pt F 0])]) (σ := (List api_Pair × Own × Value)) (fun x w' => x.1 = kb ∧ Stp [25, 27, 1007, 1008, 1009, 1010] an aj x.2.1 w' ∧ OwnSl 1012 rep_api_Pair 59 x.2.1 w' x.2.2 x.1) (fun x => x.2.2) kok84 z z ?_ ?_
      ·refine Rets.enter Tryd.func84 z z ?_
       refine (show WC _ _ _ _ [(0, d), (1, Value.func (.func 85) (List.toArray []) (List.toArray [pt F 0]))] _ from ?_)
       refine sq (rg (wY (ya z) z (nl (th (sq (rg (wY (ym z) z (wY (ym z) z ?_))))))))
       obtain ⟨kc, h, hu⟩ := bnd h
       refine WL.callJ (vals := [d, Value.func (.func 85) (List.toArray []) (List.toArray [pt F 0])]) (σ := (Int × Own)) (fun x w' => x.1 = kc ∧ Stp [] an aj x.2 w') (fun x => vi x.1) kok94 z z ?_ ?_
       ·refine Rets.enter Tryd.func94 z z ?_
        refine (show WC _ _ _ _ [(0, d), (1, Value.func (.func 85) (List.toArray []) (List.toArray [pt F 0]))] _ from ?_)
        refine sq (rg (wY (ya z) z (nl (th (sq (sq (rg (wY (ym z) z (wY (Y.len ty33 z aA.src.sl) z ?_)))))))))
        refine wY (ym z) z (nl (th (WC.block ?_)))
        obtain ⟨dz, h, cQ⟩ := flow1 h
        obtain ⟨dA, h⟩ := loop_some h
        refine WC.joinB 0 (σ := Own) (fun x w' => dz = .go () ∧ Stp [] an aj x w') (fun x => []) ?_ ?_
        ·refine WC.loop (σ := (Int × Own)) (fun x k w' => loopN k (relabel_rule_turn_lp1 a0 am) x.1 = some dz ∧ Stp [] an aj x.2 w') (fun x => [(0, d), (1, Value.func (.func 85) (List.toArray []) (List.toArray [pt F 0])), (7, vi (am.length : Int)), (8, vi x.1)]) (0, an) dA (.cons z (.cons z (.cons z (.cons z .nil)))) ⟨h, (sr_ _ _ _)⟩ ?_
         rintro ⟨co, cq⟩ dA hv ⟨h, H⟩
         obtain ⟨kd, my, rfl, h, bC⟩ := rnd1 h
         unfold relabel_rule_turn_lp1 at h
         try dsimp only at h H
         refine (show WC _ _ _ _ [(0, d), (1, Value.func (.func 85) (List.toArray []) (List.toArray [pt F 0])), (7, vi (am.length : Int)), (8, vi co)] _ from ?_)
         refine sq (rg (wY (Y.lss_i z z) z (nl (th (sq ?_)))))
         rcases cnd h with ⟨bD, h⟩ | ⟨bD, h⟩
         ·refine WC.condT' z bD (sk (th (sq (WC.block (sq (rg (wY (ym z) z (wY (ya z) z (nl ?_)))))))))
          refine th (sq (rg (wY (ym z) z (wY (ym z) z (wY (ym z) z ?_)))))
          obtain ⟨U, hw, h⟩ := bnd h
          have cR := aA.st H z z z
          obtain ⟨mz, k4, lD, cS, hx, hy, bE, dB⟩ := OwnSl.at cR hw
          obtain ⟨_, _, rfl, rfl, rfl⟩ := dB
          replace bE : CellsAt _ _ _ [vs U.Key, vs U.Val] := bE
          have dC := CAt.own cR cS bE
          refine wY (Y.indexAddr ty33 ty59 z cS z hx hy) z (wY (yL ty59 z z dC.at_ z) z ?_)
          obtain ⟨ke, h, hz⟩ := bnd h
          refine WL.callV (fv := []) (cv := [pt F 0]) (vals := [ag [vs U.Key, vs U.Val]]) (σ := (Bool × Own)) (fun x w' => x.1 = ke ∧ Stp [] cq hv x.2 w') (fun x => vB x.1) kok85 z z z ?_ ?_
          ·refine Rets.enter Tryd.func85 z z ?_
           refine (show WC _ _ _ _ [(0, ag [vs U.Key, vs U.Val]), (1, pt F 0)] _ from ?_)
           refine sq (rg (WL.box (O := cq) 26 [vs U.Key, vs U.Val] z z z ?_))
           intro mA dD hC a2 hD
           refine wY (ya z) z (nl (th (sq (rg (wY (yf fo73_1 z) z ?_)))))
           have hG := ((ah.st G z).st H z).st a2 z
           refine wY (yl ty66 z z (hG.cell 5 _ z)) z (wY (yf fo59_0 z) z (wY (yl ty9 z z (hD.cell 0 _ z)) z ?_))
           have hK := (((b6.i a z z).i G z z).i H z z).i a2 z z
           obtain ⟨dE, hL, h⟩ := bnd h
           obtain ⟨dF, lE, hM, hN, hO, dG⟩ := Pr.some hK hL
           obtain ⟨_, _, rfl, rfl, ⟨kf, rfl, hP⟩⟩ := dG
           have hQ : BlkI dD hC dF 96 [vs dE.text, kf] := ⟨le_imm hN, hO⟩
           refine WL.ren 5 z hM ?_
           obtain ⟨kg, hR, h⟩ := bnd h
           refine WL.call (vals := [pt dF 0, vs U.Key]) kok86 z z (c_glob_Glob_Match (A := fun _ => True) (a0 := dE) (Sl.all hP) hQ.blk trivial hR) ?_
           rintro lF lG ⟨rfl, hS⟩
           obtain ⟨kh, kX, kY, dH⟩ := adoptE dD (fun k => 1) hS
           refine wY (ya z) z (nl (th (rt ?_)))
           exact At.res (.inl z) z (.tmp z .nil) ⟨(kg, kh), ⟨some1 h, (tr_ (su_ a2 z) (su_ dH z))⟩, z⟩
          ·rintro ⟨ki, dI⟩ lH ⟨rfl, a3⟩
           replace h := hz
           try dsimp only at h a3
           refine (show WL _ _ _ _ _ ((16, vB ki) :: _) _ from ?_)
           refine nl (th ?_)
           rcases cnd h with ⟨bF, h⟩ | ⟨bF, h⟩
           ·refine WC.condT' z bF (sq (rg (wY (ym z) z (wY (ya z) z (nl (th (rt (At.inBlockR (At.thenR ?_)))))))))
            refine At.loopR ?_
            have h := outr1 h bC cQ
            refine At.joinBR (At.inBlockR (At.thenR ?_))
            exact At.res (.inl z) z (.tmp z .nil) ⟨(co, dI), ⟨some1 h, (tr_ (su_ H z) (su_ a3 z))⟩, z⟩
           ·refine WC.condF' z bF (sk (At.inBlock (th (rg (wY (Y.add_i z z) z (wY (ym z) z (nl ?_)))))))
            exact At.round (w64 (co + 1), dI) kd (Nat.lt_succ_self _) ⟨next1 h bC, (tr_ (su_ H z) (su_ a3 z))⟩ (.cons z (.cons z (.cons z (.cons z .nil))))
         ·refine WC.condF' z bD (WC.exit (At.thenX (At.loopX ?_)))
          exact At.hitB (σ := Own) cq ⟨brk1 h bC, (su_ H z)⟩ .nil
        ·rintro kj lI ⟨rfl, dJ⟩
         replace h := flowK_go cQ
         refine (show At _ _ _ [] _ from ?_)
         refine At.inBlockHit (th (sq (rg (wY (ya z) z (nl (th (rt ?_)))))))
         exact At.res (.inl z) z (.tmp z .nil) ⟨((-1), kj), ⟨some1 h, (su_ dJ z)⟩, z⟩
       ·rintro ⟨dK, cr⟩ bG ⟨rfl, I⟩
        replace h := hu
        try dsimp only at h I
        refine (show WL _ _ _ _ _ ((10, vi dK) :: _) _ from ?_)
        refine wY (ya z) z (nl (th (sq (sq (rg (wY (ym z) z (wY (Y.eql_i z z) z (nl (th ?_)))))))))
        rcases cnd h with ⟨bH, h⟩ | ⟨bH, h⟩
        ·refine WC.condT' z bH (sq (rg (wY (ym z) z (wY (ya z) z (nl (th (rt (At.thenR ?_))))))))
         have hT := aA.st I z z z
         obtain ⟨kk, dL, hU⟩ := OwnSl.rlb 1012 rfl hT
         exact At.res (.inl z) z (.tmp z .nil) ⟨(am, kk, d), ⟨some1 h, (tr_ (su_ I z) (su_ dL z)), hU⟩, z⟩
        ·refine WC.condF' z bH (sk (th (sq (sq (rg (wY (ym z) z (wY (Y.add_i z z) z ?_)))))))
         obtain ⟨km, hV, h⟩ := lt1 h
         refine WL.yE (ya z) (congrArg vi hV.symm) z (nl (th ?_))
         obtain ⟨kn, h, hW⟩ := bnd h
         refine WC.join (σ := (List api_Pair × Int × Own)) (fun x w' => (x.1, x.2.1) = kn ∧ Stp [25, 27, 1007, 1008, 1009] cr bG x.2.2 w' ∧ OwnSl 1010 rep_api_Pair 59 x.2.2 w' d x.1) (fun x => [(0, d), (5, vi x.2.1)]) ?_ ?_
         ·refine WC.block ?_
          obtain ⟨dM, h, hX⟩ := flow1 h
          obtain ⟨dN, h⟩ := loop_some h
          refine WC.joinB 0 (σ := (List api_Pair × Int × Own)) (fun x w' => dM = .go (x.1, x.2.1) ∧ Stp [25, 27, 1007, 1008] cr bG x.2.2 w' ∧ OwnSl 1009 rep_api_Pair 59 x.2.2 w' d x.1) (fun x => [(0, d), (5, vi x.2.1)]) ?_ ?_
          ·have hY := aA.st I z z z
           obtain ⟨ko, dO, hZ⟩ := OwnSl.rlb 1008 rfl hY
           refine WC.loop (σ := (List api_Pair × Int × Int × Own)) (fun x k w' => loopN k (relabel_rule_turn_lp2 a0) (x.1, x.2.1, x.2.2.1) = some dM ∧ Stp [25, 27, 1007, 1008] cr bG x.2.2.2 w' ∧ OwnSl 1008 rep_api_Pair 59 x.2.2.2 w' d x.1) (fun x => [(0, d), (1, Value.func (.func 85) (List.toArray []) (List.toArray [pt F 0])), (5, vi x.2.1), (6, vi x.2.2.1)]) (am, dK, km, ko) dN (.cons z (.cons z (.cons z (.cons z .nil)))) ⟨h, (su_ dO z), hZ⟩ ?_
           rintro ⟨dP, cs, ct, dQ⟩ dN h0 ⟨h, ae, V⟩
           obtain ⟨kp, mB, rfl, h, cT⟩ := rnd1 h
           unfold relabel_rule_turn_lp2 at h
           try dsimp only at h ae V
           refine (show WC _ _ _ _ [(0, d), (1, Value.func (.func 85) (List.toArray []) (List.toArray [pt F 0])), (5, vi cs), (6, vi ct)] _ from ?_)
           refine sq (sq (rg (wY (ym z) z (wY (ym z) z (wY (Y.len ty33 z V.src.sl) z (wY (Y.lss_i z z) z (nl (th ?_))))))))
           rcases cnd h with ⟨bI, h⟩ | ⟨bI, h⟩
           ·refine WC.condT' z bI (sk (th (sq ?_)))
            obtain ⟨kq, h, h1⟩ := bnd h
            refine WC.join (σ := (List api_Pair × Int × Own)) (fun x w' => (x.1, x.2.1) = kq ∧ Stp [27, 1008] dQ h0 x.2.2 w' ∧ OwnSl 1007 rep_api_Pair 59 x.2.2 w' d x.1) (fun x => [(0, d), (1, Value.func (.func 85) (List.toArray []) (List.toArray [pt F 0])), (5, vi x.2.1), (6, vi ct)]) ?_ ?_
            ·refine WC.block (sq (rg (wY (ym z) z (wY (ym z) z ?_))))
             obtain ⟨n, h2, h⟩ := bnd h
             obtain ⟨mC, k5, lJ, cU, h3, h4, bJ, dR⟩ := OwnSl.at V h2
             obtain ⟨_, _, rfl, rfl, rfl⟩ := dR
             replace bJ : CellsAt _ _ _ [vs n.Key, vs n.Val] := bJ
             have dS := CAt.own V cU bJ
             refine wY (Y.indexAddr ty33 ty59 z cU z h3 h4) z (wY (yL ty59 z z dS.at_ z) z (WL.alloc (O := dQ) 27 [vs [], vs []] ty59 z z ?_))
             intro mD dT lK J h5
             refine WL.store (v := ag [vs n.Key, vs n.Val]) (cells' := [vs n.Key, vs n.Val]) ty59 z z h5 z (le_ z) z z ?_
             intro h6 K cV
             refine nl (th (sq (rg (wY (ym z) z (wY (yL ty59 z z (cV.cells 0 [vs n.Key, vs n.Val] z) z) z ?_)))))
             obtain ⟨kr, h, h7⟩ := bnd h
             refine WL.callV (fv := []) (cv := [pt F 0]) (vals := [ag [vs n.Key, vs n.Val]]) (σ := (Bool × Own)) (fun x w' => x.1 = kr ∧ Stp [] dT h6 x.2 w') (fun x => vB x.1) kok85 z z z ?_ ?_
             ·refine Rets.enter Tryd.func85 z z ?_
              refine (show WC _ _ _ _ [(0, ag [vs n.Key, vs n.Val]), (1, pt F 0)] _ from ?_)
              refine sq (rg (WL.box (O := dT) 28 [vs n.Key, vs n.Val] z z z ?_))
              intro mE dU h8 a4 h9
              refine wY (ya z) z (nl (th (sq (rg (wY (yf fo73_1 z) z ?_)))))
              have ih := (((((ah.st G z).st I z).st ae z).st J z).st K z).st a4 z
              refine wY (yl ty66 z z (ih.cell 5 _ z)) z (wY (yf fo59_0 z) z (wY (yl ty9 z z (h9.cell 0 _ z)) z ?_))
              have ip := ((((((b6.i a z z).i G z z).i I z z).i ae z z).i J z z).i K z z).i a4 z z
              obtain ⟨dV, iq, h⟩ := bnd h
              obtain ⟨dW, lL, ir, it, iu, dX⟩ := Pr.some ip iq
              obtain ⟨_, _, rfl, rfl, ⟨ks, rfl, iv⟩⟩ := dX
              have iw : BlkI dU h8 dW 96 [vs dV.text, ks] := ⟨le_imm it, iu⟩
              refine WL.ren 5 z ir ?_
              obtain ⟨kt, iy, h⟩ := bnd h
              refine WL.call (vals := [pt dW 0, vs n.Key]) kok86 z z (c_glob_Glob_Match (A := fun _ => True) (a0 := dV) (Sl.all iv) iw.blk trivial iy) ?_
              rintro lM lN ⟨rfl, iz⟩
              obtain ⟨ku, kZ, k0, dY⟩ := adoptE dU (fun k => 1) iz
              refine wY (ya z) z (nl (th (rt ?_)))
              exact At.res (.inl z) z (.tmp z .nil) ⟨(kt, ku), ⟨some1 h, (tr_ (su_ a4 z) (su_ dY z))⟩, z⟩
             ·rintro ⟨kv, mF⟩ lO ⟨rfl, M⟩
              replace h := h7
              try dsimp only at h M
              refine (show WL _ _ _ _ _ ((28, vB kv) :: _) _ from ?_)
              refine wY (Y.not z) z (nl (th ?_))
              rcases cnd h with ⟨bK, h⟩ | ⟨bK, h⟩
              ·refine WC.condT' z bK (sq (rg (wY (ym z) z (wY (ym z) z ?_))))
               have iA := cV.st M z
               refine wY (yL ty59 z z (iA.cells 0 [vs n.Key, vs n.Val] z) z) z ?_
               obtain ⟨dZ, iB, h⟩ := bnd h
               have bL := ((V.st J z z z).st K z z z).st M z z z
               obtain ⟨mG, k6, lP, bM, iE, iF, bO, d0⟩ := OwnSl.at bL iB
               obtain ⟨_, _, rfl, rfl, rfl⟩ := d0
               replace bO : CellsAt _ _ _ [vs dZ.Key, vs dZ.Val] := bO
               have k7 := CAt.own bL bM bO
               refine wY (Y.indexAddr ty33 ty59 z bM z iE iF) z ?_
               obtain ⟨iG, d1, h⟩ := bnd h
               refine WL.storeOwn (R := rep_api_Pair) (u := n) (by decide) ty59 z z ⟨[vs n.Key], [vs n.Val], z, z, z⟩ bL bM d1 ?_
               intro lQ d2 iH
               refine nl (th (rg (wY (ym z) z (wY (Y.add_i z z) z ?_))))
               obtain ⟨kw, iI, h⟩ := lt1 h
               refine WL.yE (ya z) (congrArg vi iI.symm) z (nl (At.inBlock ?_))
               obtain ⟨kz, d3, iJ⟩ := OwnSl.rlb 1007 rfl iH
               exact At.join (σ := (List api_Pair × Int × Own)) (iG, kw, kz) ⟨some1 h, (tr_ (su_ J z) (tr_ (su_ K z) (tr_ (su_ M z) (tr_ (su_ d2 z) (su_ d3 z))))), iJ⟩ (.cons z (.cons z (.cons z (.cons z .nil))))
              ·refine WC.condF' z bK (sk (At.inBlock ?_))
               have iM := ((V.st J z z z).st K z z z).st M z z z
               obtain ⟨kA, d4, iN⟩ := OwnSl.rlb 1007 rfl iM
               exact At.join (σ := (List api_Pair × Int × Own)) (dP, cs, kA) ⟨some1 h, (tr_ (su_ J z) (tr_ (su_ K z) (tr_ (su_ M z) (su_ d4 z)))), iN⟩ (.cons z (.cons z (.cons z (.cons z .nil))))
            ·rintro ⟨kB, d5, mH⟩ lR ⟨rfl, b3, cW⟩
             replace h := h1
             try dsimp only at h b3 cW
             refine (show At _ _ _ [(0, d), (1, Value.func (.func 85) (List.toArray []) (List.toArray [pt F 0])), (5, vi d5), (6, vi ct)] _ from ?_)
             refine th (rg (wY (ym z) z (wY (Y.add_i z z) z ?_)))
             obtain ⟨kC, iO, h⟩ := lt1 h
             refine WL.yE (ya z) (congrArg vi iO.symm) z (nl ?_)
             obtain ⟨kD, d6, iP⟩ := OwnSl.rlb 1008 rfl cW
             exact At.round (kB, d5, kC, kD) kp (Nat.lt_succ_self _) ⟨next1 h cT, (tr_ (su_ ae z) (tr_ (su_ b3 z) (su_ d6 z))), iP⟩ (.cons z (.cons z (.cons z (.cons z .nil))))
           ·refine WC.condF' z bI (WC.exit (At.thenX (At.loopX ?_)))
            obtain ⟨kE, d7, iQ⟩ := OwnSl.rlb 1009 rfl V
            exact At.hitB (σ := (List api_Pair × Int × Own)) (dP, cs, kE) ⟨brk1 h cT, (tr_ (su_ ae z) (su_ d7 z)), iQ⟩ (.cons z (.cons z .nil))
          ·rintro ⟨kF, d8, mI⟩ lS ⟨rfl, b4, cX⟩
           replace h := flowK_go hX
           try dsimp only at h b4 cX
           refine (show At _ _ _ [(0, d), (5, vi d8)] _ from ?_)
           refine At.inBlockHit ?_
           obtain ⟨kG, d9, iR⟩ := OwnSl.rlb 1010 rfl cX
           exact At.join (σ := (List api_Pair × Int × Own)) (kF, d8, kG) ⟨some1 h, (tr_ (su_ b4 z) (su_ d9 z)), iR⟩ (.cons z (.cons z .nil))
         ·rintro ⟨mJ, kH, mK⟩ lT ⟨rfl, b5, bP⟩
          replace h := hW
          try dsimp only at h b5 bP
          refine (show At _ _ _ [(0, d), (5, vi kH)] _ from ?_)
          refine th (sq (rg (wY (ym z) z (wY (ym z) z ?_))))
          obtain ⟨lU, ea, h⟩ := bnd h
          refine WL.sliceTail ty33 ty59 z z bP ea z ?_
          intro mL iS
          refine WL.clearTail (u := (api_Pair.mk [] [])) (by decide) ty33 ty59 z iS z (by decide) bP ⟨[vs []], [vs []], z, z, z⟩ ?_
          intro lV eb iT
          refine nl (th (sq (rg (wY (ym z) z (wY (ym z) z ?_)))))
          obtain ⟨kI, iU, h⟩ := bnd h
          refine WL.sliceOwn ty33 ty59 z z z iT iU z ?_
          intro kJ iV
          refine wY (ya z) z (nl (th (rt ?_)))
          obtain ⟨kK, ec, iW⟩ := OwnSl.rlb 1012 rfl iV
          exact At.res (.inl z) z (.tmp z .nil) ⟨(kI, kK, kJ), ⟨some1 h, (tr_ (su_ I z) (tr_ (su_ b5 z) (tr_ (su_ eb z) (su_ ec z)))), iW⟩, z⟩
      ·rintro ⟨mM, kL, kM⟩ lW ⟨rfl, af, bQ⟩
       replace h := ht
       try dsimp only at h af bQ
       refine (show WL _ _ _ _ _ ((100, kM) :: _) _ from ?_)
       refine wY (yn z) z (wY (yf fo41_1 z) z ?_)
       have iX := h
       obtain ⟨cu, cw, cx, rfl⟩ := bQ.shape
       have h := iX
       have iZ := (cP.st G z).st af z
       refine WL.store (v := (vl cu cw cx)) (cells' := (cp a1 (vl cu cw cx) v1_13 v1_15)) ty33 z z iZ z (le_ z) z z ?_
       intro i0 ak i1
       refine nl (At.inBlock (th (sq (rg (wY (ya z) z (nl (th (rt ?_))))))))
       obtain ⟨rfl, rfl⟩ := tup2 h
       have aC : Stp [3, 25, 27, 1007, 1008, 1009, 1010] (Lg.OB b1 3 (Lg.OV v1_1 4 (Lg.OV v1_13 5 (Lg.OV v1_15 6 (Lg.O0 A))))) w kL i0 := (tr_ (su_ p z) (tr_ (su_ o z) (tr_ (su_ a z) (tr_ (su_ G z) (tr_ (su_ af z) (su_ ak z))))))
       have bR := bQ.st ak z z z
       have bS := (((S.st a z z z).st G z z z).st af z z z).st ak z z z
       have bT := (((T.st a z z z).st G z z z).st af z z z).st ak z z z
       exact At.res (.inl z) z (.tmp z .nil) ⟨(vl cu cw cx), v1_13, v1_15, z, (Stp.modL aC (sB (sV (sV sV1))) z z), (RowF.g (OwnSl.outF bR aC (lowB (lowV (lowV (lowV low0 z z) z z) z z) z z) z)), (OwnSl.outG bS aC (lowB (lowV (lowV (lowV low0 z z) z z) z z) z z) (lsB (lsV (lbV (lnV (ln0 z) z)) z) z)), (OwnSl.outG bT aC (lowB (lowV (lowV (lowV low0 z z) z z) z z) z z) (lsB (lsV (lsV (lbV (ln0 z)) z) z) z)), i1.blk, (ne_own bR bS z), (ne_own bR bT z), (ne_own bS bT z)⟩
     ·refine WC.condF' z bB (sk (At.inBlock (th (sq (rg (wY (ya z) z (nl (th (rt ?_)))))))))
      obtain ⟨rfl, rfl⟩ := tup2 h
      have aD : Stp [] (Lg.OB b1 3 (Lg.OV v1_1 4 (Lg.OV v1_13 5 (Lg.OV v1_15 6 (Lg.O0 A))))) w W a6 := (tr_ (su_ p z) (tr_ (su_ o z) (su_ a z)))
      have i8 := P.st a z
      have bU := Q.st a z z z
      have bW := S.st a z z z
      have bX := T.st a z z z
      exact At.res (.inl z) z (.tmp z .nil) ⟨v1_1, v1_13, v1_15, z, (Stp.modL aD (sB (sV (sV sV1))) z z), (OwnSl.outG bU aD (lowB (lowV (lowV (lowV low0 z z) z z) z z) z z) (lsB (lbV (lnV (lnV (ln0 z) z) z)) z)), (OwnSl.outG bW aD (lowB (lowV (lowV (lowV low0 z z) z z) z z) z z) (lsB (lsV (lbV (lnV (ln0 z) z)) z) z)), (OwnSl.outG bX aD (lowB (lowV (lowV (lowV low0 z z) z z) z z) z z) (lsB (lsV (lsV (lbV (ln0 z)) z) z) z)), i8.blk, (ne_own bU bW z), (ne_own bU bX z), (ne_own bW bX z)⟩
theorem c_relabel_Rules_run {A : Nat → Prop} {v0_0 : Value} {a0 : relabel_Rules} {b0 : Nat} {v1_1 : Value} {v1_13 : Value} {v1_15 : Value} {a1 : api_Point} {b1 : Nat} {w : World} (hs0_0 : Sl rep_relabel_rule w A v0_0 a0.l) (hb0 : w.heap[b0]? = some (.cells (List.toArray [v0_0]) 71 (0, 0))) (hm0 : A b0) (hs1_1 : Row rep_api_Pair 59 w v1_1 a1.Attrs) (hs1_13 : Row Rep.u 34 w v1_13 a1.Hist.Pos.Counts) (hs1_15 : Row Rep.u 34 w v1_15 a1.Hist.Neg.Counts) (hb1 : w.heap[b1]? = some (.cells (List.toArray (cp a1 v1_1 v1_13 v1_15)) 41 (0, 0))) (hne0_1 : ob v1_1 ≠ some b1) (hne0_2 : ob v1_13 ≠ some b1) (hne0_3 : ob v1_15 ≠ some b1) (hne1_2 : ∀ k, ob v1_1 = some k → ob v1_13 ≠ some k) (hne1_3 : ∀ k, ob v1_1 = some k → ob v1_15 ≠ some k) (hne2_3 : ∀ k, ob v1_13 = some k → ob v1_15 ≠ some k) (hA : ∀ k, A k → k ≠ b1 ∧ ob v1_1 ≠ some k ∧ ob v1_13 ≠ some k ∧ ob v1_15 ≠ some k) {r0 : Int} {q1 : api_Point} (h : relabel_Rules_run a0 a1 = some (r0, q1)) : Rets Tryd.prog 32 [pt b0 0, pt b1 0] w (fun v w' => ∃ (T : Value) (H : Value) (I : Value), v = vi r0 ∧ Mod (fun k => k = b1 ∨ ob v1_1 = some k ∨ ob v1_13 = some k ∨ ob v1_15 = some k) w w' ∧ RowG rep_api_Pair 59 w w' v1_1 T q1.Attrs ∧ RowG Rep.u 34 w w' v1_13 H q1.Hist.Pos.Counts ∧ RowG Rep.u 34 w w' v1_15 I q1.Hist.Neg.Counts ∧ w'.heap[b1]? = some (.cells (List.toArray (cp q1 T H I)) 41 (0, 0)) ∧ (∀ k, ob T = some k → ob H ≠ some k) ∧ (∀ k, ob T = some k → ob I ≠ some k) ∧ (∀ k, ob H = some k → ob I ≠ some k)) := by
 unfold relabel_Rules_run at h
 refine Rets.enter Tryd.func32 z z ?_
 have an : Sl rep_relabel_rule w (imm (Lg.OB b1 3 (Lg.OV v1_1 4 (Lg.OV v1_13 5 (Lg.OV v1_15 6 (Lg.O0 A)))))) v0_0 a0.l := (Sl.OB (Sl.OV (Sl.OV (Sl.OV (Sl.start hs0_0) (fun k hk => (hA k (O0_A k hk)).2.2.2)) (fun k hk => (hA k ((aV (ℓ := 6) O0_A z) k hk)).2.2.1)) (fun k hk => (hA k ((aV (ℓ := 5) (aV (ℓ := 6) O0_A z) z) k hk)).2.1)) (fun k hk => (hA k ((aV (ℓ := 4) (aV (ℓ := 5) (aV (ℓ := 6) O0_A z) z) z) k hk)).1))
 have a4 : Blk 0 (Lg.OB b1 3 (Lg.OV v1_1 4 (Lg.OV v1_13 5 (Lg.OV v1_15 6 (Lg.O0 A))))) w b0 71 [v0_0] := ⟨((if_neg (hA _ hm0).1).trans ((if_neg (hA _ hm0).2.1).trans ((if_neg (hA _ hm0).2.2.1).trans ((if_neg (hA _ hm0).2.2.2).trans (if_pos hm0))))), hb0⟩
 have a5 : OwnSl 4 rep_api_Pair 59 (Lg.OB b1 3 (Lg.OV v1_1 4 (Lg.OV v1_13 5 (Lg.OV v1_15 6 (Lg.O0 A))))) w v1_1 a1.Attrs := Row.start flat_api_Pair hs1_1 (fun k hk => ((if_neg (fun (e : k = b1) => hne0_1 (e ▸ hk))).trans (if_pos hk)))
 have a6 : OwnSl 5 Rep.u 34 (Lg.OB b1 3 (Lg.OV v1_1 4 (Lg.OV v1_13 5 (Lg.OV v1_15 6 (Lg.O0 A))))) w v1_13 a1.Hist.Pos.Counts := Row.start Flat.u hs1_13 (fun k hk => ((if_neg (fun (e : k = b1) => hne0_2 (e ▸ hk))).trans ((if_neg (fun (e : ob v1_1 = some k) => hne1_2 k e hk)).trans (if_pos hk))))
 have a7 : OwnSl 6 Rep.u 34 (Lg.OB b1 3 (Lg.OV v1_1 4 (Lg.OV v1_13 5 (Lg.OV v1_15 6 (Lg.O0 A))))) w v1_15 a1.Hist.Neg.Counts := Row.start Flat.u hs1_15 (fun k hk => ((if_neg (fun (e : k = b1) => hne0_3 (e ▸ hk))).trans ((if_neg (fun (e : ob v1_1 = some k) => hne1_3 k e hk)).trans ((if_neg (fun (e : ob v1_13 = some k) => hne2_3 k e hk)).trans (if_pos hk)))))
 have a8 : Blk 3 (Lg.OB b1 3 (Lg.OV v1_1 4 (Lg.OV v1_13 5 (Lg.OV v1_15 6 (Lg.O0 A))))) w b1 41 (cp a1 v1_1 v1_13 v1_15) := ⟨(if_pos z), hb1⟩
 refine (show WC _ _ _ _ [(0, pt b0 0), (1, pt b1 0)] _ from ?_)
 refine sq (rg (wY (ya z) z (nl (th (sq (sq (rg (wY (ym z) z (wY (yn z) z ?_)))))))))
 refine wY (yf fo71_0 z) z (wY (yl ty69 z z (a4.cell 0 _ z)) z (wY (Y.len ty69 z an) z (wY (ym z) z (nl (th (WC.block ?_))))))
 obtain ⟨aF, h, ao⟩ := flow1 h
 obtain ⟨aG, h⟩ := loop_some h
 refine WC.joinB 0 (σ := (List UInt8 × List api_Pair × Int × Int × Bool × Int × Int × Int × UInt64 × UInt64 × Int × UInt64 × Int × List UInt64 × Int × List UInt64 × Int × Own × Value × Value × Value)) (fun x w' => aF = .go (x.1, x.2.1, x.2.2.1, x.2.2.2.1, x.2.2.2.2.1, x.2.2.2.2.2.1, x.2.2.2.2.2.2.1, x.2.2.2.2.2.2.2.1, x.2.2.2.2.2.2.2.2.1, x.2.2.2.2.2.2.2.2.2.1, x.2.2.2.2.2.2.2.2.2.2.1, x.2.2.2.2.2.2.2.2.2.2.2.1, x.2.2.2.2.2.2.2.2.2.2.2.2.1, x.2.2.2.2.2.2.2.2.2.2.2.2.2.1, x.2.2.2.2.2.2.2.2.2.2.2.2.2.2.1, x.2.2.2.2.2.2.2.2.2.2.2.2.2.2.2.1, x.2.2.2.2.2.2.2.2.2.2.2.2.2.2.2.2.1) ∧ Stp [3, 4, 5, 6, 11] (Lg.OB b1 3 (Lg.OV v1_1 4 (Lg.OV v1_13 5 (Lg.OV v1_15 6 (Lg.O0 A))))) w x.2.2.2.2.2.2.2.2.2.2.2.2.2.2.2.2.2.1 w' ∧ OwnSl 4 rep_api_Pair 59 x.2.2.2.2.2.2.2.2.2.2.2.2.2.2.2.2.2.1 w' x.2.2.2.2.2.2.2.2.2.2.2.2.2.2.2.2.2.2.1 x.2.1 ∧ OwnSl 5 Rep.u 34 x.2.2.2.2.2.2.2.2.2.2.2.2.2.2.2.2.2.1 w' x.2.2.2.2.2.2.2.2.2.2.2.2.2.2.2.2.2.2.2.1 x.2.2.2.2.2.2.2.2.2.2.2.2.2.1 ∧ OwnSl 6 Rep.u 34 x.2.2.2.2.2.2.2.2.2.2.2.2.2.2.2.2.2.1 w' x.2.2.2.2.2.2.2.2.2.2.2.2.2.2.2.2.2.2.2.2 x.2.2.2.2.2.2.2.2.2.2.2.2.2.2.2.1 ∧ Blk 3 x.2.2.2.2.2.2.2.2.2.2.2.2.2.2.2.2.2.1 w' b1 41 [vs x.1, x.2.2.2.2.2.2.2.2.2.2.2.2.2.2.2.2.2.2.1, vi x.2.2.1, vi x.2.2.2.1, vB x.2.2.2.2.1, vi x.2.2.2.2.2.1, vi x.2.2.2.2.2.2.1, vi x.2.2.2.2.2.2.2.1, vu x.2.2.2.2.2.2.2.2.1, vu x.2.2.2.2.2.2.2.2.2.1, vi x.2.2.2.2.2.2.2.2.2.2.1, vu x.2.2.2.2.2.2.2.2.2.2.2.1, vi x.2.2.2.2.2.2.2.2.2.2.2.2.1, x.2.2.2.2.2.2.2.2.2.2.2.2.2.2.2.2.2.2.2.1, vi x.2.2.2.2.2.2.2.2.2.2.2.2.2.2.1, x.2.2.2.2.2.2.2.2.2.2.2.2.2.2.2.2.2.2.2.2, vi x.2.2.2.2.2.2.2.2.2.2.2.2.2.2.2.2.1]) (fun x => []) ?_ ?_
 ·refine WC.loop (σ := (List UInt8 × List api_Pair × Int × Int × Bool × Int × Int × Int × UInt64 × UInt64 × Int × UInt64 × Int × List UInt64 × Int × List UInt64 × Int × Int × Own × Value × Value × Value)) (fun x k w' => loopN k (relabel_Rules_run_lp1 a0) (x.1, x.2.1, x.2.2.1, x.2.2.2.1, x.2.2.2.2.1, x.2.2.2.2.2.1, x.2.2.2.2.2.2.1, x.2.2.2.2.2.2.2.1, x.2.2.2.2.2.2.2.2.1, x.2.2.2.2.2.2.2.2.2.1, x.2.2.2.2.2.2.2.2.2.2.1, x.2.2.2.2.2.2.2.2.2.2.2.1, x.2.2.2.2.2.2.2.2.2.2.2.2.1, x.2.2.2.2.2.2.2.2.2.2.2.2.2.1, x.2.2.2.2.2.2.2.2.2.2.2.2.2.2.1, x.2.2.2.2.2.2.2.2.2.2.2.2.2.2.2.1, x.2.2.2.2.2.2.2.2.2.2.2.2.2.2.2.2.1, x.2.2.2.2.2.2.2.2.2.2.2.2.2.2.2.2.2.1) = some aF ∧ Stp [3, 4, 5, 6, 11] (Lg.OB b1 3 (Lg.OV v1_1 4 (Lg.OV v1_13 5 (Lg.OV v1_15 6 (Lg.O0 A))))) w x.2.2.2.2.2.2.2.2.2.2.2.2.2.2.2.2.2.2.1 w' ∧ OwnSl 4 rep_api_Pair 59 x.2.2.2.2.2.2.2.2.2.2.2.2.2.2.2.2.2.2.1 w' x.2.2.2.2.2.2.2.2.2.2.2.2.2.2.2.2.2.2.2.1 x.2.1 ∧ OwnSl 5 Rep.u 34 x.2.2.2.2.2.2.2.2.2.2.2.2.2.2.2.2.2.2.1 w' x.2.2.2.2.2.2.2.2.2.2.2.2.2.2.2.2.2.2.2.2.1 x.2.2.2.2.2.2.2.2.2.2.2.2.2.1 ∧ OwnSl 6 Rep.u 34 x.2.2.2.2.2.2.2.2.2.2.2.2.2.2.2.2.2.2.1 w' x.2.2.2.2.2.2.2.2.2.2.2.2.2.2.2.2.2.2.2.2.2 x.2.2.2.2.2.2.2.2.2.2.2.2.2.2.2.1 ∧ Blk 3 x.2.2.2.2.2.2.2.2.2.2.2.2.2.2.2.2.2.2.1 w' b1 41 [vs x.1, x.2.2.2.2.2.2.2.2.2.2.2.2.2.2.2.2.2.2.2.1, vi x.2.2.1, vi x.2.2.2.1, vB x.2.2.2.2.1, vi x.2.2.2.2.2.1, vi x.2.2.2.2.2.2.1, vi x.2.2.2.2.2.2.2.1, vu x.2.2.2.2.2.2.2.2.1, vu x.2.2.2.2.2.2.2.2.2.1, vi x.2.2.2.2.2.2.2.2.2.2.1, vu x.2.2.2.2.2.2.2.2.2.2.2.1, vi x.2.2.2.2.2.2.2.2.2.2.2.2.1, x.2.2.2.2.2.2.2.2.2.2.2.2.2.2.2.2.2.2.2.2.1, vi x.2.2.2.2.2.2.2.2.2.2.2.2.2.2.1, x.2.2.2.2.2.2.2.2.2.2.2.2.2.2.2.2.2.2.2.2.2, vi x.2.2.2.2.2.2.2.2.2.2.2.2.2.2.2.2.1]) (fun x => [(1, pt b1 0), (10, v0_0), (11, vi (a0.l.length : Int)), (12, vi x.2.2.2.2.2.2.2.2.2.2.2.2.2.2.2.2.2.1)]) (a1.Name, a1.Attrs, a1.Kind, a1.Temp, a1.Mono, a1.Start, a1.Time, a1.Int_, a1.Re, a1.Im, a1.Hist.Scale, a1.Hist.Zero, a1.Hist.Pos.Offset, a1.Hist.Pos.Counts, a1.Hist.Neg.Offset, a1.Hist.Neg.Counts, a1.Flags, 0, (Lg.OB b1 3 (Lg.OV v1_1 4 (Lg.OV v1_13 5 (Lg.OV v1_15 6 (Lg.O0 A))))), v1_1, v1_13, v1_15) aG (.cons z (.cons z (.cons z (.cons z .nil)))) ⟨h, (sr_ _ _ _), a5, a6, a7, a8⟩ ?_
  rintro ⟨aH, aI, aJ, aK, aL, aM, aN, aO, aP, aQ, aR, aS, aT, aU, aW, aX, aY, aZ, a2, bq, br, bs⟩ aG bE ⟨h, C, ab, ac, ad, ae⟩
  obtain ⟨bt, bI, rfl, h, af⟩ := rnd1 h
  unfold relabel_Rules_run_lp1 at h
  try dsimp only at h C ab ac ad ae
  refine (show WC _ _ _ _ [(1, pt b1 0), (10, v0_0), (11, vi (a0.l.length : Int)), (12, vi aZ)] _ from ?_)
  refine sq (rg (wY (Y.lss_i z z) z (nl (th (sq ?_)))))
  rcases cnd h with ⟨ah, h⟩ | ⟨ah, h⟩
  ·refine WC.condT' z ah (sk (th (sq (WC.block (sq (rg (wY (ym z) z ?_)))))))
   obtain ⟨d, a9, h⟩ := bnd h
   have ba := an.i C z z
   obtain ⟨bJ, bB, bC, bF, bb, bc, bd, ai, aq, bf⟩ := Sl.at2 ba a9
   obtain ⟨_, _, rfl, ⟨_, _, rfl, rfl, ⟨_, _, rfl, rfl, ⟨_, _, rfl, rfl, ⟨_, _, rfl, rfl, rfl⟩⟩⟩⟩, ⟨bu, rfl, bg⟩⟩ := aq
   replace ai : CellsAt _ _ _ [vi d.Rule.Kind, vs d.Rule.Key, vs d.Rule.Glob, vs d.Rule.To, vs d.Rule.Val, bu] := ai
   have ar := CAt.imm ai bf
   refine wY (Y.indexAddr ty69 ty73 z bb z bc bd) z (wY (yL ty73 z z ar.at_ z) z (WL.alloc (O := a2) 11 [vi 0, vs [], vs [], vs [], vs [], Value.pointer none] ty73 z z ?_))
   intro bK a3 bG m bh
   refine wY (ya z) z ?_
   have au := h
   have aj := bg.i m z z
   obtain ⟨ak, rfl, _⟩ := aj.isPtr
   have h := au
   refine WL.store (v := ag [vi d.Rule.Kind, vs d.Rule.Key, vs d.Rule.Glob, vs d.Rule.To, vs d.Rule.Val, (Value.pointer ak)]) (cells' := [vi d.Rule.Kind, vs d.Rule.Key, vs d.Rule.Glob, vs d.Rule.To, vs d.Rule.Val, (Value.pointer ak)]) ty73 z z bh z (le_ z) z z ?_
   intro U j av
   refine nl (th (sq (rg (wY (yL ty73 z z (av.cells 0 [vi d.Rule.Kind, vs d.Rule.Key, vs d.Rule.Glob, vs d.Rule.To, vs d.Rule.Val, (Value.pointer ak)] z) z) z (wY (ym z) z ?_)))))
   have n := (ab.st m z z z).st j z z z
   have o := (ac.st m z z z).st j z z z
   have p := (ad.st m z z z).st j z z z
   have aA := aj.i j z z
   have q := (ae.st m z).st j z
   obtain ⟨⟨bH, a⟩, aD, h⟩ := bnd h
   refine WL.call (vals := [ag [vi d.Rule.Kind, vs d.Rule.Key, vs d.Rule.Glob, vs d.Rule.To, vs d.Rule.Val, (Value.pointer ak)], pt b1 0]) kok57 z z (c_relabel_rule_turn (A := out [3, 4, 5, 6] a3) (a0 := d) (a1 := (api_Point.mk aH aI aJ aK aL aM aN aO aP aQ (api_Hist.mk aR aS (api_Side.mk aT aU) (api_Side.mk aW aX)) aY)) (Pr.notin (L := [3, 4, 5, 6]) aA z z) n.row o.row p.row q.blk (ne_lab n q.lab z) (ne_lab o q.lab z) (ne_lab p q.lab z) (ne_own n o z) (ne_own n p z) (ne_own o p z) (fun k hk => ⟨out_ne q.lab z k hk, out_neV (w := U) n.labs z k hk, out_neV (w := U) o.labs z k hk, out_neV (w := U) p.labs z k hk⟩) aD) ?_
   rintro bD D ⟨t, E, S, rfl, aE, bi, bj, bk, bl, bm, bn, bo⟩
   obtain ⟨F, r, G, aa⟩ := adopt a3 (fun k => if ob t = some k then 4 else if ob E = some k then 5 else if ob S = some k then 6 else 1) [3, 4, 5, 6] aE (memOr (memB q.lab rfl) (memOr (memV n.labs rfl) (memOr (memV o.labs rfl) (memV p.labs rfl))))
   have J : OwnSl 4 rep_api_Pair 59 F D t a.Attrs := RowG.adopt flat_api_Pair n.labs bi r G (fun k hk => if_pos hk)
   have K : OwnSl 5 Rep.u 34 F D E a.Hist.Pos.Counts := RowG.adopt Flat.u o.labs bj r G (fun k hk => (if_neg (fun (e : ob t = some k) => bm k e hk)).trans (if_pos hk))
   have M : OwnSl 6 Rep.u 34 F D S a.Hist.Neg.Counts := RowG.adopt Flat.u p.labs bk r G (fun k hk => (if_neg (fun (e : ob t = some k) => bn k e hk)).trans ((if_neg (fun (e : ob E = some k) => bo k e hk)).trans (if_pos hk)))
   have al : Blk 3 F D b1 41 (cp a t E S) := Blk.adopt q r bl
   refine wY (Y.not z) z (nl (th ?_))
   rcases cnd h with ⟨V, h⟩ | ⟨V, h⟩
   ·refine WC.condT' z V (sq (rg (wY (ym z) z (wY (ya z) z (nl (th (rt (At.inBlockR (At.thenR ?_)))))))))
    refine At.loopR ?_
    have h := outr1 h af ao
    refine At.joinBR (At.inBlockR (At.thenR ?_))
    obtain ⟨rfl, rfl⟩ := tup2 h
    have P : Stp [3, 4, 5, 6, 11] (Lg.OB b1 3 (Lg.OV v1_1 4 (Lg.OV v1_13 5 (Lg.OV v1_15 6 (Lg.O0 A))))) w F D := (tr_ (su_ C z) (tr_ (su_ m z) (tr_ (su_ j z) (su_ aa z))))
    exact At.res (.inl z) z (.tmp z .nil) ⟨t, E, S, z, (Stp.modL P (sB (sV (sV sV1))) z z), (OwnSl.outG J P (lowB (lowV (lowV (lowV low0 z z) z z) z z) z z) (lsB (lbV (lnV (lnV (ln0 z) z) z)) z)), (OwnSl.outG K P (lowB (lowV (lowV (lowV low0 z z) z z) z z) z z) (lsB (lsV (lbV (lnV (ln0 z) z)) z) z)), (OwnSl.outG M P (lowB (lowV (lowV (lowV low0 z z) z z) z z) z z) (lsB (lsV (lsV (lbV (ln0 z)) z) z) z)), al.blk, (ne_own J K z), (ne_own J M z), (ne_own K M z)⟩
   ·refine WC.condF' z V (sk (At.inBlock (th (rg (wY (Y.add_i z z) z (wY (ym z) z (nl ?_)))))))
    exact At.round (a.Name, a.Attrs, a.Kind, a.Temp, a.Mono, a.Start, a.Time, a.Int_, a.Re, a.Im, a.Hist.Scale, a.Hist.Zero, a.Hist.Pos.Offset, a.Hist.Pos.Counts, a.Hist.Neg.Offset, a.Hist.Neg.Counts, a.Flags, w64 (aZ + 1), F, t, E, S) bt (Nat.lt_succ_self _) ⟨next1 h af, (tr_ (su_ C z) (tr_ (su_ m z) (tr_ (su_ j z) (su_ aa z)))), J, K, M, al⟩ (.cons z (.cons z (.cons z (.cons z .nil))))
  ·refine WC.condF' z ah (WC.exit (At.thenX (At.loopX ?_)))
   exact At.hitB (σ := (List UInt8 × List api_Pair × Int × Int × Bool × Int × Int × Int × UInt64 × UInt64 × Int × UInt64 × Int × List UInt64 × Int × List UInt64 × Int × Own × Value × Value × Value)) (aH, aI, aJ, aK, aL, aM, aN, aO, aP, aQ, aR, aS, aT, aU, aW, aX, aY, a2, bq, br, bs) ⟨brk1 h af, (su_ C z), ab, ac, ad, ae⟩ .nil
 ·rintro ⟨bL, bM, bO, bP, bQ, bR, bS, bT, bU, bW, bX, bY, bZ, b2, b3, b4, b5, bw, bx, bz, bA⟩ bp ⟨rfl, am, W, X, Z, ap⟩
  replace h := flowK_go ao
  try dsimp only at h am W X Z ap
  refine (show At _ _ _ [] _ from ?_)
  refine At.inBlockHit (th (sq (rg (wY (ya z) z (nl (th (rt ?_)))))))
  obtain ⟨rfl, rfl⟩ := tup2 h
  have Q : Stp [3, 4, 5, 6, 11] (Lg.OB b1 3 (Lg.OV v1_1 4 (Lg.OV v1_13 5 (Lg.OV v1_15 6 (Lg.O0 A))))) w bw bp := (su_ am z)
  exact At.res (.inl z) z (.tmp z .nil) ⟨bx, bz, bA, z, (Stp.modL Q (sB (sV (sV sV1))) z z), (OwnSl.outG W Q (lowB (lowV (lowV (lowV low0 z z) z z) z z) z z) (lsB (lbV (lnV (lnV (ln0 z) z) z)) z)), (OwnSl.outG X Q (lowB (lowV (lowV (lowV low0 z z) z z) z z) z z) (lsB (lsV (lbV (lnV (ln0 z) z)) z) z)), (OwnSl.outG Z Q (lowB (lowV (lowV (lowV low0 z z) z z) z z) z z) (lsB (lsV (lsV (lbV (ln0 z)) z) z) z)), ap.blk, (ne_own W X z), (ne_own W Z z), (ne_own X Z z)⟩
theorem c_cmp_isNaN_string {a0 : List UInt8} {w : World} {r0 : Bool} (h : cmp_isNaN_string a0 = some r0) : Rets Tryd.prog 88 [vs a0] w (fun v w' => v = vB r0 ∧ Ext w w') := by
 unfold cmp_isNaN_string at h
 refine Rets.enter Tryd.func88 z z ?_
 refine (show WC _ _ _ _ [(0, vs a0)] _ from ?_)
 refine sq (rg (wY (ya z) z (nl (th (sq (rg (wY (ym z) z (wY (ym z) z (wY (Y.neq_s z z) z ?_)))))))))
 obtain ⟨j, a, h⟩ := lt1 h
 refine WL.yE (ya z) (congrArg vB a.symm) z (nl (th (rt ?_)))
 obtain rfl := some1 h
 have d : Stp [] (Lg.O0 (fun _ => False)) w (Lg.O0 (fun _ => False)) w := (sr_ _ _ _)
 exact At.res (.inl z) z (.tmp z .nil) ⟨z, (se_ d z z)⟩
theorem c_cmp_Compare_string {a0 : List UInt8} {a1 : List UInt8} {w : World} {r0 : Int} (h : cmp_Compare_string a0 a1 = some r0) : Rets Tryd.prog 60 [vs a0, vs a1] w (fun v w' => v = vi r0 ∧ Ext w w') := by
 unfold cmp_Compare_string at h
 refine Rets.enter Tryd.func60 z z ?_
 refine (show WC _ _ _ _ [(0, vs a0), (1, vs a1)] _ from ?_)
 refine sq (rg (wY (ya z) z (nl (th (sq (rg (wY (ym z) z ?_)))))))
 obtain ⟨X, t, h⟩ := bnd h
 refine WL.call (vals := [vs a0]) kok88 z z (c_cmp_isNaN_string t) ?_
 rintro U V ⟨rfl, C⟩
 obtain ⟨M, P, Q, a⟩ := adoptE (Lg.O0 (fun _ => False)) (fun k => 1) C
 refine wY (ya z) z (nl (th (sq (rg (wY (ym z) z ?_)))))
 obtain ⟨Z, D, h⟩ := bnd h
 refine WL.call (vals := [vs a1]) kok88 z z (c_cmp_isNaN_string D) ?_
 rintro W j ⟨rfl, E⟩
 obtain ⟨m, S, T, d⟩ := adoptE M (fun k => 1) E
 refine wY (ya z) z (nl (th (sq (sq (rg (wY (ym z) z (nl (th ?_))))))))
 rcases cnd h with ⟨n, h⟩ | ⟨n, h⟩
 ·refine WC.condT' z n (sq (sq (rg (wY (ym z) z (nl (th ?_))))))
  rcases cnd h with ⟨o, h⟩ | ⟨o, h⟩
  ·refine WC.condT' z o (sq (rg (wY (ya z) z (nl (th (rt (At.thenR (At.thenR ?_))))))))
   obtain rfl := some1 h
   have F : Stp [] (Lg.O0 (fun _ => False)) w m j := (tr_ (su_ a z) (su_ d z))
   exact At.res (.inl z) z (.tmp z .nil) ⟨z, (se_ F z z)⟩
  ·refine WC.condF' z o (sk (th (sq (rg (wY (ya z) z (nl (th (rt (At.thenR ?_)))))))))
   obtain rfl := some1 h
   have G : Stp [] (Lg.O0 (fun _ => False)) w m j := (tr_ (su_ a z) (su_ d z))
   exact At.res (.inl z) z (.tmp z .nil) ⟨z, (se_ G z z)⟩
 ·refine WC.condF' z n (sk (th (sq (sq (rg (wY (ym z) z (nl (th ?_))))))))
  rcases cnd h with ⟨p, h⟩ | ⟨p, h⟩
  ·refine WC.condT' z p (sq (rg (wY (ya z) z (nl (th (rt (At.thenR ?_)))))))
   obtain rfl := some1 h
   have H : Stp [] (Lg.O0 (fun _ => False)) w m j := (tr_ (su_ a z) (su_ d z))
   exact At.res (.inl z) z (.tmp z .nil) ⟨z, (se_ H z z)⟩
  ·refine WC.condF' z p (sk (th (sq (sq (rg (wY (ym z) z (wY (ym z) z (wY (Y.lss_s z z) z (nl ?_)))))))))
   refine th ?_
   rcases cnd h with ⟨q, h⟩ | ⟨q, h⟩
   ·refine WC.condT' z q (sq (rg (wY (ya z) z (nl (th (rt (At.thenR ?_)))))))
    obtain rfl := some1 h
    have I : Stp [] (Lg.O0 (fun _ => False)) w m j := (tr_ (su_ a z) (su_ d z))
    exact At.res (.inl z) z (.tmp z .nil) ⟨z, (se_ I z z)⟩
   ·refine WC.condF' z q (sk (th (sq (sq (rg (wY (ym z) z (wY (ym z) z (wY (Y.gtr_s z z) z (nl ?_)))))))))
    refine th ?_
    rcases cnd h with ⟨r, h⟩ | ⟨r, h⟩
    ·refine WC.condT' z r (sq (rg (wY (ya z) z (nl (th (rt (At.thenR ?_)))))))
     obtain rfl := some1 h
     have J : Stp [] (Lg.O0 (fun _ => False)) w m j := (tr_ (su_ a z) (su_ d z))
     exact At.res (.inl z) z (.tmp z .nil) ⟨z, (se_ J z z)⟩
    ·refine WC.condF' z r (sk (th (sq (rg (wY (ya z) z (nl (th (rt ?_))))))))
     obtain rfl := some1 h
     have K : Stp [] (Lg.O0 (fun _ => False)) w m j := (tr_ (su_ a z) (su_ d z))
     exact At.res (.inl z) z (.tmp z .nil) ⟨z, (se_ K z z)⟩
end Go.Lg
