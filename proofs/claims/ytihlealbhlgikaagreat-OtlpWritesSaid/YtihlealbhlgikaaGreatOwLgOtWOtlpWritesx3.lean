/- The walks of OtlpWrites and of what it calls, printed by gen.py. -/
import Derived.Test.YtihlealbhlgikaaGreatOwLgOtWOtlpWritesx2
set_option linter.unusedVariables false
namespace Go.Lg
open Go Go.Proofs
set_option maxRecDepth 100000
set_option maxHeartbeats 4000000
theorem c_ref11_Value {a0 : List UInt8} {w : World} {r0 : Bool} (h : ref11_Value a0 = some r0) : Rets Tryz.prog 94 [vs a0] w (fun v w' => v = vB r0 ∧ Ext w w') := by
 unfold ref11_Value at h
 refine Rets.enter Tryz.func94 z z ?_
 refine (show WC _ _ _ _ [(0, vs a0)] _ from ?_)
 refine sq (rg (wY (ya z) z (nl (th (sq (sq (rg (wY (ym z) z (wY (Y.len_s ty9 z) z ?_)))))))))
 refine wY (Y.lss_i z z) z (wY (ym z) z ?_)
 refine WL.cut 4 (σ := Unit) (fun _ w' => w = w') (fun _ => [(0, vs a0), (12, vB ((decide ((a0.length : Int) < 1)) || (decide (32 < (a0.length : Int)))))]) ?_ ?_
 ·refine WL.part 8 z (fun e => ?_) (fun e => ?_)
  ·refine WL.gS z z z z (WL.gS z z z z (WL.gS z z z z (wY (Y.pick (b := true) z z) z (WL.ren (v' := vB ((decide ((a0.length : Int) < 1)) || (decide (32 < (a0.length : Int))))) 12 z (congrArg vB (orT e)) ?_))))
   exact nl (At.join () z (.cons z (.cons z .nil)))
  ·refine ug z z (wY (ym z) z (ug z z (wY (Y.len_s ty9 z) z (ug z z (wY (Y.gtr_i z z) z (wY (Y.pick (b := false) z z) z (WL.ren (v' := vB ((decide ((a0.length : Int) < 1)) || (decide (32 < (a0.length : Int))))) 12 z (congrArg vB (orF e)) ?_)))))))
   exact nl (At.join () z (.cons z (.cons z .nil)))
 ·rintro _ _ rfl
  refine (show WL _ _ _ _ _ [(0, vs a0), (12, vB ((decide ((a0.length : Int) < 1)) || (decide (32 < (a0.length : Int)))))] _ from ?_)
  refine nl (th ?_)
  rcases cnd h with ⟨j, h⟩ | ⟨j, h⟩
  ·refine WC.condT' z j (sq (rg (wY (ya z) z (nl (th (rt (At.thenR ?_)))))))
   obtain rfl := some1 h
   have G : Stp [] (Lg.O0 (fun _ => False)) w (Lg.O0 (fun _ => False)) w := (sr_ _ _ _)
   exact At.res (.inl z) z (.tmp z .nil) ⟨z, (se_ G z z)⟩
  ·refine WC.condF' z j (sk (th (sq (sq (rg (wY (ya z) z (nl (th (WC.block ?_)))))))))
   obtain ⟨E, h, D⟩ := flow1 h
   obtain ⟨F, h⟩ := loop_some h
   refine WC.joinB 0 (σ := Unit) (fun x w' => E = .go () ∧ w = w') (fun x => []) ?_ ?_
   ·refine WC.loop (σ := Int) (fun x k w' => loopN k (ref11_Value_lp1 a0) x = some E ∧ w = w') (fun x => [(0, vs a0), (3, vi x)]) 0 F (.cons z (.cons z .nil)) ⟨h, z⟩ ?_
    rintro d F _ ⟨h, rfl⟩
    obtain ⟨L, P, rfl, h, l⟩ := rnd1 h
    unfold ref11_Value_lp1 at h
    try dsimp only at h
    refine (show WC _ _ _ _ [(0, vs a0), (3, vi d)] _ from ?_)
    refine sq (sq (rg (wY (ym z) z (wY (ym z) z (wY (Y.len_s ty9 z) z (wY (Y.lss_i z z) z (nl (th ?_))))))))
    rcases cnd h with ⟨m, h⟩ | ⟨m, h⟩
    ·refine WC.condT' z m (sk (th (sq (WC.block (sq (rg (wY (ym z) z (wY (ym z) z ?_))))))))
     obtain ⟨c, H, h⟩ := bnd h
     refine wY (Y.index_s ty9 z z H) z (wY (ya z) z (nl (th (sq (rg (wY (ym z) z (wY (Y.leq_b (b := 32) z z) z (wY (ym z) z ?_))))))))
     refine WL.cut 3 (σ := Unit) (fun _ w' => w = w') (fun _ => [(0, vs a0), (3, vi d), (4, vb c), (27, vB ((decide (c ≤ 32)) || (decide (127 ≤ c))))]) ?_ ?_
     ·refine WL.part 24 z (fun o => ?_) (fun o => ?_)
      ·refine WL.gS z z z z (WL.gS z z z z (wY (Y.pick (b := true) z z) z (WL.ren (v' := vB ((decide (c ≤ 32)) || (decide (127 ≤ c)))) 27 z (congrArg vB (orT o)) ?_)))
       exact nl (At.join () z (.cons z (.cons z (.cons z (.cons z .nil)))))
      ·refine ug z z (wY (ym z) z (ug z z (wY (Y.geq_b (b := 127) z z) z (wY (Y.pick (b := false) z z) z (WL.ren (v' := vB ((decide (c ≤ 32)) || (decide (127 ≤ c)))) 27 z (congrArg vB (orF o)) ?_)))))
       exact nl (At.join () z (.cons z (.cons z (.cons z (.cons z .nil)))))
     ·rintro _ _ rfl
      refine (show WL _ _ _ _ _ [(0, vs a0), (3, vi d), (4, vb c), (27, vB ((decide (c ≤ 32)) || (decide (127 ≤ c))))] _ from ?_)
      refine wY (ym z) z ?_
      refine WL.cut 3 (σ := Unit) (fun _ w' => w = w') (fun _ => [(0, vs a0), (3, vi d), (4, vb c), (31, vB (((decide (c ≤ 32)) || (decide (127 ≤ c))) || (decide (c = 61))))]) ?_ ?_
      ·refine WL.part 28 z (fun p => ?_) (fun p => ?_)
       ·refine WL.gS z z z z (WL.gS z z z z (wY (Y.pick (b := true) z z) z (WL.ren (v' := vB (((decide (c ≤ 32)) || (decide (127 ≤ c))) || (decide (c = 61)))) 31 z (congrArg vB (orT p)) ?_)))
        exact nl (At.join () z (.cons z (.cons z (.cons z (.cons z .nil)))))
       ·refine ug z z (wY (ym z) z (ug z z (wY (Y.eql_b (b := 61) z z) z (wY (Y.pick (b := false) z z) z (WL.ren (v' := vB (((decide (c ≤ 32)) || (decide (127 ≤ c))) || (decide (c = 61)))) 31 z (congrArg vB (orF p)) ?_)))))
        exact nl (At.join () z (.cons z (.cons z (.cons z (.cons z .nil)))))
      ·rintro _ _ rfl
       refine (show WL _ _ _ _ _ [(0, vs a0), (3, vi d), (4, vb c), (31, vB (((decide (c ≤ 32)) || (decide (127 ≤ c))) || (decide (c = 61))))] _ from ?_)
       refine wY (ym z) z ?_
       refine WL.cut 3 (σ := Unit) (fun _ w' => w = w') (fun _ => [(0, vs a0), (3, vi d), (4, vb c), (35, vB ((((decide (c ≤ 32)) || (decide (127 ≤ c))) || (decide (c = 61))) || (decide (c = 59))))]) ?_ ?_
       ·refine WL.part 32 z (fun r => ?_) (fun r => ?_)
        ·refine WL.gS z z z z (WL.gS z z z z (wY (Y.pick (b := true) z z) z (WL.ren (v' := vB ((((decide (c ≤ 32)) || (decide (127 ≤ c))) || (decide (c = 61))) || (decide (c = 59)))) 35 z (congrArg vB (orT r)) ?_)))
         exact nl (At.join () z (.cons z (.cons z (.cons z (.cons z .nil)))))
        ·refine ug z z (wY (ym z) z (ug z z (wY (Y.eql_b (b := 59) z z) z (wY (Y.pick (b := false) z z) z (WL.ren (v' := vB ((((decide (c ≤ 32)) || (decide (127 ≤ c))) || (decide (c = 61))) || (decide (c = 59)))) 35 z (congrArg vB (orF r)) ?_)))))
         exact nl (At.join () z (.cons z (.cons z (.cons z (.cons z .nil)))))
       ·rintro _ _ rfl
        refine (show WL _ _ _ _ _ [(0, vs a0), (3, vi d), (4, vb c), (35, vB ((((decide (c ≤ 32)) || (decide (127 ≤ c))) || (decide (c = 61))) || (decide (c = 59))))] _ from ?_)
        refine wY (ym z) z ?_
        refine WL.cut 3 (σ := Unit) (fun _ w' => w = w') (fun _ => [(0, vs a0), (3, vi d), (39, vB (((((decide (c ≤ 32)) || (decide (127 ≤ c))) || (decide (c = 61))) || (decide (c = 59))) || (decide (c = 44))))]) ?_ ?_
        ·refine WL.part 36 z (fun t => ?_) (fun t => ?_)
         ·refine WL.gS z z z z (WL.gS z z z z (wY (Y.pick (b := true) z z) z (WL.ren (v' := vB (((((decide (c ≤ 32)) || (decide (127 ≤ c))) || (decide (c = 61))) || (decide (c = 59))) || (decide (c = 44)))) 39 z (congrArg vB (orT t)) ?_)))
          exact nl (At.join () z (.cons z (.cons z (.cons z .nil))))
         ·refine ug z z (wY (ym z) z (ug z z (wY (Y.eql_b (b := 44) z z) z (wY (Y.pick (b := false) z z) z (WL.ren (v' := vB (((((decide (c ≤ 32)) || (decide (127 ≤ c))) || (decide (c = 61))) || (decide (c = 59))) || (decide (c = 44)))) 39 z (congrArg vB (orF t)) ?_)))))
          exact nl (At.join () z (.cons z (.cons z (.cons z .nil))))
        ·rintro _ _ rfl
         refine (show WL _ _ _ _ _ [(0, vs a0), (3, vi d), (39, vB (((((decide (c ≤ 32)) || (decide (127 ≤ c))) || (decide (c = 61))) || (decide (c = 59))) || (decide (c = 44))))] _ from ?_)
         refine nl (th ?_)
         rcases cnd h with ⟨C, h⟩ | ⟨C, h⟩
         ·refine WC.condT' z C (sq (rg (wY (ya z) z (nl (th (rt (At.inBlockR (At.thenR (At.loopR ?_)))))))))
          have h := outr1 h l D
          refine At.joinBR (At.inBlockR (At.thenR ?_))
          obtain rfl := some1 h
          have I : Stp [] (Lg.O0 (fun _ => False)) w (Lg.O0 (fun _ => False)) w := (sr_ _ _ _)
          exact At.res (.inl z) z (.tmp z .nil) ⟨z, (se_ I z z)⟩
         ·refine WC.condF' z C (sk (At.inBlock (th (rg (wY (ym z) z (wY (Y.add_i z z) z ?_))))))
          obtain ⟨M, J, h⟩ := lt1 h
          refine WL.yE (ya z) (congrArg vi J.symm) z (nl ?_)
          exact At.round M L (Nat.lt_succ_self _) ⟨next1 h l, z⟩ (.cons z (.cons z .nil))
    ·refine WC.condF' z m (WC.exit (At.thenX (At.loopX ?_)))
     exact At.hitB (σ := Unit) () ⟨brk1 h l, z⟩ .nil
   ·rintro _ _ ⟨rfl, rfl⟩
    replace h := flowK_go D
    refine (show At _ _ _ [] _ from ?_)
    refine At.inBlockHit (th (sq (rg (wY (ya z) z (nl (th (rt ?_)))))))
    obtain rfl := some1 h
    have K : Stp [] (Lg.O0 (fun _ => False)) w (Lg.O0 (fun _ => False)) w := (sr_ _ _ _)
    exact At.res (.inl z) z (.tmp z .nil) ⟨z, (se_ K z z)⟩
theorem c_ref11_Check {A : Nat → Prop} {a0 : List UInt8} {a1 : List api_Pair} {v1 : Value} {w : World} (hs1 : Sl rep_api_Pair w A v1 a1) {r0 : Int} (h : ref11_Check a0 a1 = some r0) : Rets Tryz.prog 52 [vs a0, v1] w (fun v w' => v = vi r0 ∧ Ext w w') := by
 unfold ref11_Check at h
 refine Rets.enter Tryz.func52 z z ?_
 have aW : Sl rep_api_Pair w (imm (Lg.O0 A)) v1 a1 := (Sl.start hs1)
 refine (show WC _ _ _ _ [(0, vs a0), (1, v1)] _ from ?_)
 refine sq (rg (wY (ya z) z (nl (th (sq (sq (rg (wY (ym z) z ?_))))))))
 obtain ⟨b8, aX, h⟩ := bnd h
 refine WL.call (vals := [vs a0]) kok93 z z (c_ref11_Name aX) ?_
 rintro bX p ⟨rfl, aY⟩
 obtain ⟨I, br, bs, d⟩ := adoptE (Lg.O0 A) (fun k => 1) aY
 refine wY (Y.not z) z (nl (th ?_))
 rcases cnd h with ⟨K, h⟩ | ⟨K, h⟩
 ·refine WC.condT' z K (sq (rg (wY (ya z) z (nl (th (rt (At.thenR ?_)))))))
  obtain rfl := some1 h
  have aZ : Stp [] (Lg.O0 A) w I p := (su_ d z)
  exact At.res (.inl z) z (.tmp z .nil) ⟨z, (se_ aZ z z)⟩
 ·refine WC.condF' z K (sk (th (sq (sq (rg (wY (ym z) z ?_))))))
  have ae := aW.i d z z
  refine wY (Y.len ty32 z ae) z (wY (Y.gtr_i z z) z (nl (th ?_)))
  rcases cnd h with ⟨L, h⟩ | ⟨L, h⟩
  ·refine WC.condT' z L (sq (rg (wY (ya z) z (nl (th (rt (At.thenR ?_)))))))
   obtain rfl := some1 h
   have a2 : Stp [] (Lg.O0 A) w I p := (su_ d z)
   exact At.res (.inl z) z (.tmp z .nil) ⟨z, (se_ a2 z z)⟩
  ·refine WC.condF' z L (sk (th (sq (sq (rg (wY (ya z) z (nl (th (WC.block ?_)))))))))
   obtain ⟨aS, h, M⟩ := flow1 h
   obtain ⟨aT, h⟩ := loop_some h
   refine WC.joinB 0 (σ := Own) (fun x w' => aS = .go () ∧ Stp [] I p x w') (fun x => []) ?_ ?_
   ·refine WC.loop (σ := (Int × Own)) (fun x k w' => loopN k (ref11_Check_lp1 a1) x.1 = some aS ∧ Stp [] I p x.2 w') (fun x => [(1, v1), (5, vi x.1)]) (0, I) aT (.cons z (.cons z .nil)) ⟨h, (sr_ _ _ _)⟩ ?_
    rintro ⟨j, aU⟩ aT bY ⟨h, e⟩
    obtain ⟨bt, b9, rfl, h, r⟩ := rnd1 h
    unfold ref11_Check_lp1 at h
    try dsimp only at h e
    refine (show WC _ _ _ _ [(1, v1), (5, vi j)] _ from ?_)
    refine sq (sq (rg (wY (ym z) z (wY (ym z) z ?_))))
    have t := ae.i e z z
    refine wY (Y.len ty32 z t) z (wY (Y.lss_i z z) z (nl (th ?_)))
    rcases cnd h with ⟨P, h⟩ | ⟨P, h⟩
    ·refine WC.condT' z P (sk (th (sq (WC.block (sq (sq (rg (wY (ym z) z (wY (ym z) z ?_)))))))))
     obtain ⟨Z, a3, h⟩ := bnd h
     obtain ⟨ca, bO, bP, bZ, a4, a5, a6, Q, ap, a7⟩ := Sl.at2 t a3
     obtain ⟨_, _, rfl, rfl, rfl⟩ := ap
     replace Q : CellsAt _ _ _ [vs Z.Key, vs Z.Val] := Q
     have aq := CAt.imm Q a7
     refine wY (Y.indexAddr ty32 ty67 z a4 z a5 a6) z (wY (yf fo67_0 z) z (wY (yl ty9 z z (aq.at_.sub 0 [vs Z.Key] z)) z ?_))
     obtain ⟨cb, a8, h⟩ := bnd h
     refine WL.call (vals := [vs Z.Key]) kok93 z z (c_ref11_Name a8) ?_
     rintro b0 a9 ⟨rfl, ba⟩
     obtain ⟨af, bu, bw, l⟩ := adoptE aU (fun k => 1) ba
     refine wY (Y.not z) z (wY (ym z) z ?_)
     obtain ⟨bx, h, bb⟩ := bnd h
     refine WL.cut 8 (σ := (Bool × Own)) (fun x w' => x.1 = bx ∧ Stp [] af a9 x.2 w') (fun x => [(1, v1), (5, vi j), (34, vB x.1)]) ?_ ?_
     ·rcases cnd h with ⟨S, h⟩ | ⟨S, h⟩
      ·refine WL.ren 26 z (congrArg vB S) (WL.gS z z z z (WL.gS z z z z (WL.gS z z z z (WL.gS z z z z (WL.gS z z z z (WL.gS z z z z (WL.gS z z z z (wY (Y.pick (b := true) z z) z ?_))))))))
       exact nl (At.join (σ := (Bool × Own)) (true, af) ⟨some1 h, (sr_ _ _ _)⟩ (.cons z (.cons z (.cons z .nil))))
      ·refine WL.ren 26 z (congrArg vB S) (ug z z (wY (ym z) z (ug z z (wY (ym z) z (ug z z ?_)))))
       obtain ⟨aa, bc, h⟩ := bnd h
       have bd := t.i l z z
       obtain ⟨cc, bQ, bR, b1, bf, bg, bh, T, ar, bi⟩ := Sl.at2 bd bc
       obtain ⟨_, _, rfl, rfl, rfl⟩ := ar
       replace T : CellsAt _ _ _ [vs aa.Key, vs aa.Val] := T
       have au := CAt.imm T bi
       refine wY (Y.indexAddr ty32 ty67 z bf z bg bh) z (ug z z (wY (yf fo67_1 z) z (ug z z (wY (yl ty9 z z (au.at_.sub 1 [vs aa.Val] z)) z (ug z z ?_)))))
       obtain ⟨bz, bj, h⟩ := bnd h
       refine WL.call (vals := [vs aa.Val]) kok94 z z (c_ref11_Value bj) ?_
       rintro b2 b3 ⟨rfl, bk⟩
       obtain ⟨bA, bB, bC, av⟩ := adoptE af (fun k => 1) bk
       refine ug z z (wY (Y.not z) z (wY (Y.pick (b := false) z z) z ?_))
       exact nl (At.join (σ := (Bool × Own)) ((!bz), bA) ⟨some1 h, (su_ av z)⟩ (.cons z (.cons z (.cons z .nil))))
     ·rintro ⟨bD, J⟩ C ⟨rfl, m⟩
      replace h := bb
      try dsimp only at h m
      refine (show WL _ _ _ _ _ [(1, v1), (5, vi j), (34, vB bD)] _ from ?_)
      refine nl (th ?_)
      rcases cnd h with ⟨U, h⟩ | ⟨U, h⟩
      ·refine WC.condT' z U (sq (rg (wY (ya z) z (nl (th (rt (At.thenR (At.inBlockR (At.thenR ?_)))))))))
       refine At.loopR ?_
       have h := outr1 h r M
       refine At.joinBR (At.inBlockR (At.thenR ?_))
       obtain rfl := some1 h
       have bl : Stp [] (Lg.O0 A) w J C := (tr_ (su_ d z) (tr_ (su_ e z) (tr_ (su_ l z) (su_ m z))))
       exact At.res (.inl z) z (.tmp z .nil) ⟨z, (se_ bl z z)⟩
      ·refine WC.condF' z U (sk (th (sq (rg (wY (ya z) z (nl (th ?_)))))))
       obtain ⟨bE, h, ah⟩ := flow1 h
       refine WC.join (σ := Own) (fun x w' => bE = .go () ∧ Stp [] J C x w') (fun x => [(1, v1), (5, vi j)]) ?_ ?_
       ·refine WC.block ?_
        obtain ⟨ai, h, ab⟩ := flow1 h
        obtain ⟨aj, h⟩ := loop_some h
        refine WC.joinB 2 (σ := Own) (fun x w' => ai = .go () ∧ Stp [] J C x w') (fun x => [(1, v1), (5, vi j)]) ?_ ?_
        ·refine WC.loop (σ := (Int × Own)) (fun x k w' => loopN k (ref11_Check_lp2 a1 j) x.1 = some ai ∧ Stp [] J C x.2 w') (fun x => [(1, v1), (5, vi j), (6, vi x.1)]) (0, J) aj (.cons z (.cons z (.cons z .nil))) ⟨h, (sr_ _ _ _)⟩ ?_
         rintro ⟨bG, ac⟩ aj bS ⟨h, c⟩
         obtain ⟨bm, b4, rfl, h, D⟩ := rnd1 h
         unfold ref11_Check_lp2 at h
         try dsimp only at h c
         refine (show WC _ _ _ _ [(1, v1), (5, vi j), (6, vi bG)] _ from ?_)
         refine sq (sq (rg (wY (ym z) z (wY (ym z) z (wY (Y.lss_i z z) z (nl (th ?_)))))))
         rcases cnd h with ⟨E, h⟩ | ⟨E, h⟩
         ·refine WC.condT' z E (sk (th (sq (WC.block (sq (WC.draw 10 ac fmix (by kernel_rfl) ?_))))))
          intro ax o
          refine WS.y (ym z) z (WS.y (ym z) z ?_)
          obtain ⟨W, ay, h⟩ := bnd h
          have ad := (((t.i l z z).i m z z).i c z z).i o z z
          obtain ⟨b5, bH, bI, bT, aD, aE, aF, F, ak, aG⟩ := Sl.at2 ad ay
          obtain ⟨_, _, rfl, rfl, rfl⟩ := ak
          replace F : CellsAt _ _ _ [vs W.Key, vs W.Val] := F
          have al := CAt.imm F aG
          refine WS.y (Y.indexAddr ty32 ty67 z aD z aE aF) z (WS.y (yf fo67_0 z) z (WS.y (yl ty9 z z (al.at_.sub 0 [vs W.Key] z)) z (WS.y (ym z) z (WS.y (ym z) z ?_))))
          obtain ⟨X, aH, h⟩ := bnd h
          obtain ⟨b6, bJ, bK, bU, aI, aJ, aK, G, am, aL⟩ := Sl.at2 ad aH
          obtain ⟨_, _, rfl, rfl, rfl⟩ := am
          replace G : CellsAt _ _ _ [vs X.Key, vs X.Val] := G
          have an := CAt.imm G aL
          refine WS.y (Y.indexAddr ty32 ty67 z aI z aJ aK) z (WS.y (yf fo67_0 z) z (WS.y (yl ty9 z z (an.at_.sub 0 [vs X.Key] z)) z (WS.tail (wY (Y.eql_s z z) z (nl (th ?_))))))
          rcases cnd h with ⟨H, h⟩ | ⟨H, h⟩
          ·refine WC.condT' z H (sq (rg (wY (ya z) z (nl (th (rt (At.inBlockR (At.thenR (At.loopR ?_)))))))))
           have h := outr1 h D ab
           refine At.joinBR (At.inBlockR ?_)
           have h := outs1 h ah
           refine At.joinR (At.inBlockR (At.thenR (At.loopR ?_)))
           have h := outr1 h r M
           refine At.joinBR (At.inBlockR (At.thenR ?_))
           obtain rfl := some1 h
           have aM : Stp [] (Lg.O0 A) w ac ax := (tr_ (su_ d z) (tr_ (su_ e z) (tr_ (su_ l z) (tr_ (su_ m z) (tr_ (su_ c z) (su_ o z))))))
           exact At.res (.inl z) z (.tmp z .nil) ⟨z, (se_ aM z z)⟩
          ·refine WC.condF' z H (sk (At.inBlock (th (rg (wY (ym z) z (wY (Y.add_i z z) z ?_))))))
           obtain ⟨bn, aN, h⟩ := lt1 h
           refine WL.yE (ya z) (congrArg vi aN.symm) z (nl ?_)
           exact At.round (bn, ac) bm (Nat.lt_succ_self _) ⟨next1 h D, (tr_ (su_ c z) (su_ o z))⟩ (.cons z (.cons z (.cons z .nil)))
         ·refine WC.condF' z E (WC.exit (At.thenX (At.loopX ?_)))
          exact At.hitB (σ := Own) ac ⟨brk1 h D, (su_ c z)⟩ (.cons z (.cons z .nil))
        ·rintro bo bW ⟨rfl, ao⟩
         replace h := flowK_go ab
         refine (show At _ _ _ [(1, v1), (5, vi j)] _ from ?_)
         refine At.inBlockHit ?_
         exact At.join (σ := Own) bo ⟨go2 h, (su_ ao z)⟩ (.cons z (.cons z .nil))
       ·rintro bL b7 ⟨rfl, aO⟩
        replace h := flowK_go ah
        refine (show At _ _ _ [(1, v1), (5, vi j)] _ from ?_)
        refine At.inBlock (th (rg (wY (ym z) z (wY (Y.add_i z z) z ?_))))
        obtain ⟨bp, aP, h⟩ := lt1 h
        refine WL.yE (ya z) (congrArg vi aP.symm) z (nl ?_)
        exact At.round (bp, bL) bt (Nat.lt_succ_self _) ⟨next1 h r, (tr_ (su_ e z) (tr_ (su_ l z) (tr_ (su_ m z) (su_ aO z))))⟩ (.cons z (.cons z .nil))
    ·refine WC.condF' z P (WC.exit (At.thenX (At.loopX ?_)))
     exact At.hitB (σ := Own) aU ⟨brk1 h r, (su_ e z)⟩ .nil
   ·rintro bM bq ⟨rfl, aQ⟩
    replace h := flowK_go M
    refine (show At _ _ _ [] _ from ?_)
    refine At.inBlockHit (th (sq (rg (wY (ya z) z (nl (th (rt ?_)))))))
    obtain rfl := some1 h
    have aR : Stp [] (Lg.O0 A) w bM bq := (tr_ (su_ d z) (su_ aQ z))
    exact At.res (.inl z) z (.tmp z .nil) ⟨z, (se_ aR z z)⟩
theorem c_ref08_SameSide {A : Nat → Prop} {v0_1 : Value} {a0 : api_Side} {v1_1 : Value} {a1 : api_Side} {w : World} (hs0_1 : Sl Rep.u w A v0_1 a0.Counts) (hs1_1 : Sl Rep.u w A v1_1 a1.Counts) {r0 : Bool} (h : ref08_SameSide a0 a1 = some r0) : Rets Tryz.prog 62 [ag [vi a0.Offset, v0_1], ag [vi a1.Offset, v1_1]] w (fun v w' => v = vB r0 ∧ Ext w w') := by
 unfold ref08_SameSide at h
 refine Rets.enter Tryz.func62 z z ?_
 have m : Sl Rep.u w (imm (Lg.O0 A)) v0_1 a0.Counts := (Sl.start hs0_1)
 have ab : Sl Rep.u w (imm (Lg.O0 A)) v1_1 a1.Counts := (Sl.start hs1_1)
 refine (show WC _ _ _ _ [(0, ag [vi a0.Offset, v0_1]), (1, ag [vi a1.Offset, v1_1])] _ from ?_)
 refine sq (rg ?_)
 have ac := h
 obtain ⟨aM, aN, aO, rfl⟩ := m.shape
 have h := ac
 refine WL.box (O := (Lg.O0 A)) 11 [vi a0.Offset, (vl aM aN aO)] z z z ?_
 intro I aP a6 e ad
 have o := ab.i e z z
 have ae := h
 obtain ⟨aQ, aR, aS, rfl⟩ := o.shape
 have h := ae
 refine WL.box (O := aP) 12 [vi a1.Offset, (vl aQ aR aS)] z z z ?_
 intro J K l c p
 refine wY (ya z) z (nl (th (sq (sq (rg (wY (yf fo36_0 z) z ?_))))))
 have r := ad.st c z
 refine wY (yl ty3 z z (r.cell 0 _ z)) z (wY (yf fo36_0 z) z (wY (yl ty3 z z (p.cell 0 _ z)) z (wY (Y.neq_i z z) z (wY (ym z) z ?_))))
 refine WL.cut 8 (σ := Unit) (fun _ w' => l = w') (fun _ => [(2, pt I 0), (3, pt J 0), (19, vB ((!decide (a0.Offset = a1.Offset)) || (!decide ((a0.Counts.length : Int) = (a1.Counts.length : Int)))))]) ?_ ?_
 ·refine WL.part 11 z (fun t => ?_) (fun t => ?_)
  ·refine WL.gS z z z z (WL.gS z z z z (WL.gS z z z z (WL.gS z z z z (WL.gS z z z z (WL.gS z z z z (WL.gS z z z z (wY (Y.pick (b := true) z z) z (WL.ren (v' := vB ((!decide (a0.Offset = a1.Offset)) || (!decide ((a0.Counts.length : Int) = (a1.Counts.length : Int))))) 19 z (congrArg vB (orT t)) ?_))))))))
   exact nl (At.join () z (.cons z (.cons z (.cons z .nil))))
  ·refine ug z z (wY (yf fo36_1 z) z (ug z z (wY (yl ty34 z z (r.cell 1 _ z)) z (ug z z ?_))))
   have ah := (m.i e z z).i c z z
   refine wY (Y.len ty34 z ah) z (ug z z (wY (yf fo36_1 z) z (ug z z (wY (yl ty34 z z (p.cell 1 _ z)) z (ug z z ?_)))))
   have ai := o.i c z z
   refine wY (Y.len ty34 z ai) z (ug z z (wY (Y.neq_i z z) z (wY (Y.pick (b := false) z z) z (WL.ren (v' := vB ((!decide (a0.Offset = a1.Offset)) || (!decide ((a0.Counts.length : Int) = (a1.Counts.length : Int))))) 19 z (congrArg vB (orF t)) ?_))))
   exact nl (At.join () z (.cons z (.cons z (.cons z .nil))))
 ·rintro _ _ rfl
  refine (show WL _ _ _ _ _ [(2, pt I 0), (3, pt J 0), (19, vB ((!decide (a0.Offset = a1.Offset)) || (!decide ((a0.Counts.length : Int) = (a1.Counts.length : Int)))))] _ from ?_)
  refine nl (th ?_)
  rcases cnd h with ⟨C, h⟩ | ⟨C, h⟩
  ·refine WC.condT' z C (sq (rg (wY (ya z) z (nl (th (rt (At.thenR ?_)))))))
   obtain rfl := some1 h
   have aj : Stp [] (Lg.O0 A) w K l := (tr_ (su_ e z) (su_ c z))
   exact At.res (.inl z) z (.tmp z .nil) ⟨z, (se_ aj z z)⟩
  ·refine WC.condF' z C (sk (th (sq (sq (rg (wY (ya z) z (nl (th (WC.block ?_)))))))))
   obtain ⟨Z, h, M⟩ := flow1 h
   obtain ⟨aa, h⟩ := loop_some h
   refine WC.joinB 0 (σ := Own) (fun x w' => Z = .go () ∧ Stp [] K l x w') (fun x => []) ?_ ?_
   ·refine WC.loop (σ := (Int × Own)) (fun x k w' => loopN k (ref08_SameSide_lp1 a0 a1) x.1 = some Z ∧ Stp [] K l x.2 w') (fun x => [(2, pt I 0), (3, pt J 0), (5, vi x.1)]) (0, K) aa (.cons z (.cons z (.cons z .nil))) ⟨h, (sr_ _ _ _)⟩ ?_
    rintro ⟨aT, L⟩ aa a7 ⟨h, d⟩
    obtain ⟨aU, ba, rfl, h, D⟩ := rnd1 h
    unfold ref08_SameSide_lp1 at h
    try dsimp only at h d
    refine (show WC _ _ _ _ [(2, pt I 0), (3, pt J 0), (5, vi aT)] _ from ?_)
    refine sq (sq (rg (wY (ym z) z (wY (yf fo36_1 z) z ?_))))
    have P := r.st d z
    refine wY (yl ty34 z z (P.cell 1 _ z)) z ?_
    have Q := ((m.i e z z).i c z z).i d z z
    refine wY (Y.len ty34 z Q) z (wY (Y.lss_i z z) z (nl (th ?_)))
    rcases cnd h with ⟨E, h⟩ | ⟨E, h⟩
    ·refine WC.condT' z E (sk (th (sq (WC.block (sq (WC.draw 10 L fmix (by kernel_rfl) ?_))))))
     intro am j
     refine WS.y (yf fo36_1 z) z ?_
     have an := P.st j z
     refine WS.y (yl ty34 z z (an.cell 1 _ z)) z (WS.y (ym z) z ?_)
     obtain ⟨aW, ao, h⟩ := bnd h
     have ap := Q.i j z z
     obtain ⟨bb, a2, a3, a8, aq, ar, au, F, S, av⟩ := Sl.at2 ap ao
     obtain rfl := S
     replace F : CellsAt _ _ _ [vu aW] := F
     have T := CAt.imm F av
     refine WS.y (Y.indexAddr ty34 ty33 z aq z ar au) z (WS.y (yl ty33 z z T.at_) z (WS.y (yf fo36_1 z) z ?_))
     have ay := (p.st d z).st j z
     refine WS.y (yl ty34 z z (ay.cell 1 _ z)) z (WS.y (ym z) z ?_)
     obtain ⟨aX, az, h⟩ := bnd h
     have aD := ((o.i c z z).i d z z).i j z z
     obtain ⟨bc, a4, a5, a9, aE, aF, aG, G, U, aH⟩ := Sl.at2 aD az
     obtain rfl := U
     replace G : CellsAt _ _ _ [vu aX] := G
     have W := CAt.imm G aH
     refine WS.y (Y.indexAddr ty34 ty33 z aE z aF aG) z (WS.y (yl ty33 z z W.at_) z (WS.tail (wY (Y.neq_u z z) z (nl (th ?_)))))
     rcases cnd h with ⟨H, h⟩ | ⟨H, h⟩
     ·refine WC.condT' z H (sq (rg (wY (ya z) z (nl (th (rt (At.inBlockR (At.thenR (At.loopR ?_)))))))))
      have h := outr1 h D M
      refine At.joinBR (At.inBlockR (At.thenR ?_))
      obtain rfl := some1 h
      have aI : Stp [] (Lg.O0 A) w L am := (tr_ (su_ e z) (tr_ (su_ c z) (tr_ (su_ d z) (su_ j z))))
      exact At.res (.inl z) z (.tmp z .nil) ⟨z, (se_ aI z z)⟩
     ·refine WC.condF' z H (sk (At.inBlock (th (rg (wY (ym z) z (wY (Y.add_i z z) z ?_))))))
      obtain ⟨aY, aJ, h⟩ := lt1 h
      refine WL.yE (ya z) (congrArg vi aJ.symm) z (nl ?_)
      exact At.round (aY, L) aU (Nat.lt_succ_self _) ⟨next1 h D, (tr_ (su_ d z) (su_ j z))⟩ (.cons z (.cons z (.cons z .nil)))
    ·refine WC.condF' z E (WC.exit (At.thenX (At.loopX ?_)))
     exact At.hitB (σ := Own) L ⟨brk1 h D, (su_ d z)⟩ .nil
   ·rintro aZ aK ⟨rfl, X⟩
    replace h := flowK_go M
    refine (show At _ _ _ [] _ from ?_)
    refine At.inBlockHit (th (sq (rg (wY (ya z) z (nl (th (rt ?_)))))))
    obtain rfl := some1 h
    have aL : Stp [] (Lg.O0 A) w aZ aK := (tr_ (su_ e z) (tr_ (su_ c z) (su_ X z)))
    exact At.res (.inl z) z (.tmp z .nil) ⟨z, (se_ aL z z)⟩
theorem c_ref08_Same {A : Nat → Prop} {v0_3 : Value} {v0_5 : Value} {a0 : api_Hist} {v1_3 : Value} {v1_5 : Value} {a1 : api_Hist} {w : World} (hs0_3 : Sl Rep.u w A v0_3 a0.Pos.Counts) (hs0_5 : Sl Rep.u w A v0_5 a0.Neg.Counts) (hs1_3 : Sl Rep.u w A v1_3 a1.Pos.Counts) (hs1_5 : Sl Rep.u w A v1_5 a1.Neg.Counts) {r0 : Bool} (h : ref08_Same a0 a1 = some r0) : Rets Tryz.prog 31 [ag (hl a0 v0_3 v0_5), ag (hl a1 v1_3 v1_5)] w (fun v w' => v = vB r0 ∧ Ext w w') := by
 unfold ref08_Same at h
 refine Rets.enter Tryz.func31 z z ?_
 have D : Sl Rep.u w (imm (Lg.O0 A)) v0_3 a0.Pos.Counts := (Sl.start hs0_3)
 have E : Sl Rep.u w (imm (Lg.O0 A)) v0_5 a0.Neg.Counts := (Sl.start hs0_5)
 have ad : Sl Rep.u w (imm (Lg.O0 A)) v1_3 a1.Pos.Counts := (Sl.start hs1_3)
 have ae : Sl Rep.u w (imm (Lg.O0 A)) v1_5 a1.Neg.Counts := (Sl.start hs1_5)
 refine (show WC _ _ _ _ [(0, ag (hl a0 v0_3 v0_5)), (1, ag (hl a1 v1_3 v1_5))] _ from ?_)
 refine sq (rg ?_)
 have af := h
 obtain ⟨F, G, H, rfl⟩ := D.shape
 have h := af
 have ah := h
 obtain ⟨I, J, K, rfl⟩ := E.shape
 have h := ah
 refine WL.box (O := (Lg.O0 A)) 11 (hl a0 (vl F G H) (vl I J K)) z z z ?_
 intro r aI aW e ai
 have L := ad.i e z z
 have aj := h
 obtain ⟨M, P, Q, rfl⟩ := L.shape
 have h := aj
 have S := ae.i e z z
 have ak := h
 obtain ⟨T, U, W, rfl⟩ := S.shape
 have h := ak
 refine WL.box (O := aI) 12 (hl a1 (vl M P Q) (vl T U W)) z z z ?_
 intro t X Z c j
 refine wY (ya z) z (nl (th (sq (rg (wY (yf fo38_0 z) z ?_)))))
 have l := ai.st c z
 refine wY (yl ty3 z z (l.cell 0 _ z)) z (wY (yf fo38_0 z) z (wY (yl ty3 z z (j.cell 0 _ z)) z (wY (Y.eql_i z z) z (wY (ym z) z ?_))))
 refine WL.cut 6 (σ := Unit) (fun _ w' => Z = w') (fun _ => [(2, pt r 0), (3, pt t 0), (16, vB ((decide (a0.Scale = a1.Scale)) && (decide (a0.Zero = a1.Zero))))]) ?_ ?_
 ·refine WL.part 10 z (fun m => ?_) (fun m => ?_)
  ·refine ug z z (wY (yf fo38_1 z) z (ug z z (wY (yl ty33 z z (l.cell 1 _ z)) z (ug z z (wY (yf fo38_1 z) z (ug z z (wY (yl ty33 z z (j.cell 1 _ z)) z (ug z z (wY (Y.eql_u z z) z ?_)))))))))
   refine wY (Y.pick (b := true) z z) z (WL.ren (v' := vB ((decide (a0.Scale = a1.Scale)) && (decide (a0.Zero = a1.Zero)))) 16 z (congrArg vB (andT m)) ?_)
   exact nl (At.join () z (.cons z (.cons z (.cons z .nil))))
  ·refine WL.gS z z z z (WL.gS z z z z (WL.gS z z z z (WL.gS z z z z (WL.gS z z z z (wY (Y.pick (b := false) z z) z (WL.ren (v' := vB ((decide (a0.Scale = a1.Scale)) && (decide (a0.Zero = a1.Zero)))) 16 z (congrArg vB (andF m)) ?_))))))
   exact nl (At.join () z (.cons z (.cons z (.cons z .nil))))
 ·rintro _ _ rfl
  refine (show WL _ _ _ _ _ [(2, pt r 0), (3, pt t 0), (16, vB ((decide (a0.Scale = a1.Scale)) && (decide (a0.Zero = a1.Zero))))] _ from ?_)
  refine wY (ym z) z ?_
  obtain ⟨aJ, h, al⟩ := bnd h
  refine WL.cut 6 (σ := (Bool × Own)) (fun x w' => x.1 = aJ ∧ Stp [] X Z x.2 w') (fun x => [(2, pt r 0), (3, pt t 0), (23, vB x.1)]) ?_ ?_
  ·rcases cnd h with ⟨o, h⟩ | ⟨o, h⟩
   ·refine WL.ren 17 z (congrArg vB o) (ug z z (wY (yf fo38_2 z) z (ug z z (wY (yL ty36 z z (l.cells 2 [vi a0.Pos.Offset, (vl F G H)] z) z) z (ug z z (wY (yf fo38_2 z) z (ug z z (wY (yL ty36 z z (j.cells 2 [vi a1.Pos.Offset, (vl M P Q)] z) z) z (ug z z ?_)))))))))
    have an := (D.i e z z).i c z z
    have ao := L.i c z z
    obtain ⟨aK, ap, h⟩ := bnd h
    refine WL.call (vals := [ag [vi a0.Pos.Offset, (vl F G H)], ag [vi a1.Pos.Offset, (vl M P Q)]]) kok62 z z (c_ref08_SameSide (A := fun _ => True) (a0 := a0.Pos) (a1 := a1.Pos) (Sl.all an) (Sl.all ao) ap) ?_
    rintro aX aY ⟨rfl, aq⟩
    obtain ⟨aL, aM, aN, ab⟩ := adoptE X (fun k => 1) aq
    refine wY (Y.pick (b := true) z z) z ?_
    exact nl (At.join (σ := (Bool × Own)) (aK, aL) ⟨some1 h, (su_ ab z)⟩ (.cons z (.cons z (.cons z .nil))))
   ·refine WL.ren 17 z (congrArg vB o) (WL.gS z z z z (WL.gS z z z z (WL.gS z z z z (WL.gS z z z z (WL.gS z z z z (wY (Y.pick (b := false) z z) z ?_))))))
    exact nl (At.join (σ := (Bool × Own)) (false, X) ⟨some1 h, (sr_ _ _ _)⟩ (.cons z (.cons z (.cons z .nil))))
  ·rintro ⟨aO, aa⟩ ar ⟨rfl, d⟩
   replace h := al
   try dsimp only at h d
   refine (show WL _ _ _ _ _ [(2, pt r 0), (3, pt t 0), (23, vB aO)] _ from ?_)
   refine wY (ym z) z ?_
   obtain ⟨aP, h, au⟩ := bnd h
   refine WL.cut 6 (σ := (Bool × Own)) (fun x w' => x.1 = aP ∧ Stp [] aa ar x.2 w') (fun x => [(30, vB x.1)]) ?_ ?_
   ·rcases cnd h with ⟨p, h⟩ | ⟨p, h⟩
    ·refine WL.ren 24 z (congrArg vB p) (ug z z (wY (yf fo38_3 z) z (ug z z ?_)))
     have av := l.st d z
     refine wY (yL ty36 z z (av.cells 4 [vi a0.Neg.Offset, (vl I J K)] z) z) z (ug z z (wY (yf fo38_3 z) z (ug z z ?_)))
     have ax := j.st d z
     refine wY (yL ty36 z z (ax.cells 4 [vi a1.Neg.Offset, (vl T U W)] z) z) z (ug z z ?_)
     have aA := ((E.i e z z).i c z z).i d z z
     have aD := (S.i c z z).i d z z
     obtain ⟨aQ, aE, h⟩ := bnd h
     refine WL.call (vals := [ag [vi a0.Neg.Offset, (vl I J K)], ag [vi a1.Neg.Offset, (vl T U W)]]) kok62 z z (c_ref08_SameSide (A := fun _ => True) (a0 := a0.Neg) (a1 := a1.Neg) (Sl.all aA) (Sl.all aD) aE) ?_
     rintro aZ a2 ⟨rfl, aF⟩
     obtain ⟨aR, aS, aT, ac⟩ := adoptE aa (fun k => 1) aF
     refine wY (Y.pick (b := true) z z) z ?_
     exact nl (At.join (σ := (Bool × Own)) (aQ, aR) ⟨some1 h, (su_ ac z)⟩ (.cons z .nil))
    ·refine WL.ren 24 z (congrArg vB p) (WL.gS z z z z (WL.gS z z z z (WL.gS z z z z (WL.gS z z z z (WL.gS z z z z (wY (Y.pick (b := false) z z) z ?_))))))
     exact nl (At.join (σ := (Bool × Own)) (false, aa) ⟨some1 h, (sr_ _ _ _)⟩ (.cons z .nil))
   ·rintro ⟨x64, aU⟩ aG ⟨rfl, C⟩
    replace h := au
    try dsimp only at h C
    refine (show WL _ _ _ _ _ [(30, vB x64)] _ from ?_)
    refine wY (ya z) z (nl (th (rt ?_)))
    obtain rfl := some1 h
    have aH : Stp [] (Lg.O0 A) w aU aG := (tr_ (su_ e z) (tr_ (su_ c z) (tr_ (su_ d z) (su_ C z))))
    exact At.res (.inl z) z (.tmp z .nil) ⟨z, (se_ aH z z)⟩
theorem c_ref12_none {A : Nat → Prop} {v0_3 : Value} {v0_5 : Value} {a0 : api_Hist} {w : World} (hs0_3 : Sl Rep.u w A v0_3 a0.Pos.Counts) (hs0_5 : Sl Rep.u w A v0_5 a0.Neg.Counts) {r0 : Bool} (h : ref12_none a0 = some r0) : Rets Tryz.prog 53 [ag (hl a0 v0_3 v0_5)] w (fun v w' => v = vB r0 ∧ Ext w w') := by
 unfold ref12_none at h
 refine Rets.enter Tryz.func53 z z ?_
 have d : Sl Rep.u w (imm (Lg.O0 A)) v0_3 a0.Pos.Counts := (Sl.start hs0_3)
 have e : Sl Rep.u w (imm (Lg.O0 A)) v0_5 a0.Neg.Counts := (Sl.start hs0_5)
 refine (show WC _ _ _ _ [(0, ag (hl a0 v0_3 v0_5))] _ from ?_)
 refine sq (rg ?_)
 have C := h
 obtain ⟨j, l, m, rfl⟩ := d.shape
 have h := C
 have D := h
 obtain ⟨o, p, r, rfl⟩ := e.shape
 have h := D
 refine WL.box (O := (Lg.O0 A)) 11 (hl a0 (vl j l m) (vl o p r)) z z z ?_
 intro U L S c E
 refine wY (ya z) z (nl (th (sq (rg (wY (yL ty38 z z (E.cells 0 (hl a0 (vl j l m) (vl o p r)) z) z) z (wY (yb (vals := []) (cells := hzr) (fe_ z) (by kernel_rfl)) z ?_))))))
 have F := d.i c z z
 have G := e.i c z z
 obtain ⟨W, H, h⟩ := bnd h
 refine WL.call (vals := [ag (hl a0 (vl j l m) (vl o p r)), ag hzr]) kok31 z z (c_ref08_Same (A := fun _ => True) (a0 := a0) (a1 := (api_Hist.mk 0 0 (api_Side.mk 0 []) (api_Side.mk 0 []))) (Sl.all F) (Sl.all G) (Or.inl ⟨z, z⟩) (Or.inl ⟨z, z⟩) H) ?_
 rintro T I ⟨rfl, J⟩
 obtain ⟨M, P, Q, t⟩ := adoptE L (fun k => 1) J
 refine wY (ya z) z (nl (th (rt ?_)))
 obtain rfl := some1 h
 have K : Stp [] (Lg.O0 A) w M I := (tr_ (su_ c z) (su_ t z))
 exact At.res (.inl z) z (.tmp z .nil) ⟨z, (se_ K z z)⟩
theorem c_ref05_Finite {a0 : UInt64} {w : World} {r0 : Bool} (h : ref05_Finite a0 = some r0) : Rets Tryz.prog 54 [vu a0] w (fun v w' => v = vB r0 ∧ Ext w w') := by
 unfold ref05_Finite at h
 refine Rets.enter Tryz.func54 z z ?_
 refine (show WC _ _ _ _ [(0, vu a0)] _ from ?_)
 refine sq (rg (wY (ya z) z (nl (th (sq (rg (wY (ym z) z (wY (Y.quo_u (b := 4503599627370496) (by decide) z z) z (wY (Y.rem_u (b := 2048) (by decide) z z) z ?_)))))))))
 refine wY (Y.neq_u (b := 2047) z z) z ?_
 obtain ⟨e, c, h⟩ := lt1 h
 refine WL.yE (ya z) (congrArg vB c.symm) z (nl (th (rt ?_)))
 obtain rfl := some1 h
 have d : Stp [] (Lg.O0 (fun _ => False)) w (Lg.O0 (fun _ => False)) w := (sr_ _ _ _)
 exact At.res (.inl z) z (.tmp z .nil) ⟨z, (se_ d z z)⟩
theorem c_ref05_Odd {a0 : UInt64} {w : World} {r0 : Bool} (h : ref05_Odd a0 = some r0) : Rets Tryz.prog 95 [vu a0] w (fun v w' => v = vB r0 ∧ Ext w w') := by
 unfold ref05_Odd at h
 refine Rets.enter Tryz.func95 z z ?_
 refine (show WC _ _ _ _ [(0, vu a0)] _ from ?_)
 refine sq (rg (wY (ya z) z (nl (th (sq (rg (wY (ym z) z (wY (Y.quo_u (b := 4503599627370496) (by decide) z z) z (wY (Y.rem_u (b := 2048) (by decide) z z) z ?_)))))))))
 refine wY (Y.eql_u (b := 2047) z z) z (wY (ym z) z ?_)
 refine WL.cut 4 (σ := Unit) (fun _ w' => w = w') (fun _ => [(11, vB ((decide (((a0 / 4503599627370496) % 2048) = 2047)) && (!decide ((a0 % 4503599627370496) = 0))))]) ?_ ?_
 ·refine WL.part 7 z (fun c => ?_) (fun c => ?_)
  ·refine ug z z (wY (ym z) z (ug z z (wY (Y.rem_u (b := 4503599627370496) (by decide) z z) z (ug z z (wY (Y.neq_u (b := 0) z z) z (wY (Y.pick (b := true) z z) z (WL.ren (v' := vB ((decide (((a0 / 4503599627370496) % 2048) = 2047)) && (!decide ((a0 % 4503599627370496) = 0)))) 11 z (congrArg vB (andT c)) ?_)))))))
   exact nl (At.join () z (.cons z .nil))
  ·refine WL.gS z z z z (WL.gS z z z z (WL.gS z z z z (wY (Y.pick (b := false) z z) z (WL.ren (v' := vB ((decide (((a0 / 4503599627370496) % 2048) = 2047)) && (!decide ((a0 % 4503599627370496) = 0)))) 11 z (congrArg vB (andF c)) ?_))))
   exact nl (At.join () z (.cons z .nil))
 ·rintro _ _ rfl
  refine (show WL _ _ _ _ _ [(11, vB ((decide (((a0 / 4503599627370496) % 2048) = 2047)) && (!decide ((a0 % 4503599627370496) = 0))))] _ from ?_)
  obtain ⟨j, d, h⟩ := lt1 h
  refine WL.yE (ya z) (congrArg vB d.symm) z (nl (th (rt ?_)))
  obtain rfl := some1 h
  have e : Stp [] (Lg.O0 (fun _ => False)) w (Lg.O0 (fun _ => False)) w := (sr_ _ _ _)
  exact At.res (.inl z) z (.tmp z .nil) ⟨z, (se_ e z z)⟩
theorem c_ref05_Less {a0 : UInt64} {a1 : UInt64} {w : World} {r0 : Bool} (h : ref05_Less a0 a1 = some r0) : Rets Tryz.prog 55 [vu a0, vu a1] w (fun v w' => v = vB r0 ∧ Ext w w') := by
 unfold ref05_Less at h
 refine Rets.enter Tryz.func55 z z ?_
 refine (show WC _ _ _ _ [(0, vu a0), (1, vu a1)] _ from ?_)
 refine sq (rg (wY (ya z) z (nl (th (sq (sq (rg (wY (ym z) z ?_))))))))
 obtain ⟨ap, I, h⟩ := bnd h
 refine WL.call (vals := [vu a0]) kok95 z z (c_ref05_Odd I) ?_
 rintro am J ⟨rfl, K⟩
 obtain ⟨G, ad, ae, l⟩ := adoptE (Lg.O0 (fun _ => False)) (fun k => 1) K
 refine wY (ym z) z ?_
 obtain ⟨af, h, L⟩ := bnd h
 refine WL.cut 3 (σ := (Bool × Own)) (fun x w' => x.1 = af ∧ Stp [] G J x.2 w') (fun x => [(0, vu a0), (1, vu a1), (12, vB x.1)]) ?_ ?_
 ·rcases cnd h with ⟨o, h⟩ | ⟨o, h⟩
  ·refine WL.ren 9 z (congrArg vB o) (WL.gS z z z z (WL.gS z z z z (wY (Y.pick (b := true) z z) z ?_)))
   exact nl (At.join (σ := (Bool × Own)) (true, G) ⟨some1 h, (sr_ _ _ _)⟩ (.cons z (.cons z (.cons z .nil))))
  ·refine WL.ren 9 z (congrArg vB o) (ug z z (wY (ym z) z (ug z z ?_)))
   obtain ⟨ah, M, h⟩ := bnd h
   refine WL.call (vals := [vu a1]) kok95 z z (c_ref05_Odd M) ?_
   rintro an ao ⟨rfl, P⟩
   obtain ⟨ai, aj, ak, H⟩ := adoptE G (fun k => 1) P
   refine wY (Y.pick (b := false) z z) z ?_
   exact nl (At.join (σ := (Bool × Own)) (ah, ai) ⟨some1 h, (su_ H z)⟩ (.cons z (.cons z (.cons z .nil))))
 ·rintro ⟨al, m⟩ c ⟨rfl, d⟩
  replace h := L
  try dsimp only at h d
  refine (show WL _ _ _ _ _ [(0, vu a0), (1, vu a1), (12, vB al)] _ from ?_)
  refine nl (th ?_)
  rcases cnd h with ⟨p, h⟩ | ⟨p, h⟩
  ·refine WC.condT' z p (sq (rg (wY (ya z) z (nl (th (rt (At.thenR ?_)))))))
   obtain rfl := some1 h
   have Q : Stp [] (Lg.O0 (fun _ => False)) w m c := (tr_ (su_ l z) (su_ d z))
   exact At.res (.inl z) z (.tmp z .nil) ⟨z, (se_ Q z z)⟩
  ·refine WC.condF' z p (sk (th (sq (rg (wY (ym z) z (wY (Y.rem_u (b := 9223372036854775808) (by decide) z z) z (wY (ym z) z (wY (Y.rem_u (b := 9223372036854775808) (by decide) z z) z ?_))))))))
   obtain ⟨e, S, h⟩ := lt1 h
   refine WL.yE (ya z) (congrArg vu S.symm) z ?_
   obtain ⟨j, T, h⟩ := lt1 h
   refine WL.yE (ya z) (congrArg vu T.symm) z (nl (th (sq (sq (rg (wY (ym z) z (wY (Y.eql_u (b := 0) z z) z (wY (ym z) z ?_))))))))
   refine WL.cut 3 (σ := Unit) (fun _ w' => c = w') (fun _ => [(0, vu a0), (1, vu a1), (5, vu e), (6, vu j), (22, vB ((decide (e = 0)) && (decide (j = 0))))]) ?_ ?_
   ·refine WL.part 19 z (fun r => ?_) (fun r => ?_)
    ·refine ug z z (wY (ym z) z (ug z z (wY (Y.eql_u (b := 0) z z) z (wY (Y.pick (b := true) z z) z (WL.ren (v' := vB ((decide (e = 0)) && (decide (j = 0)))) 22 z (congrArg vB (andT r)) ?_)))))
     exact nl (At.join () z (.cons z (.cons z (.cons z (.cons z (.cons z .nil))))))
    ·refine WL.gS z z z z (WL.gS z z z z (wY (Y.pick (b := false) z z) z (WL.ren (v' := vB ((decide (e = 0)) && (decide (j = 0)))) 22 z (congrArg vB (andF r)) ?_)))
     exact nl (At.join () z (.cons z (.cons z (.cons z (.cons z (.cons z .nil))))))
   ·rintro _ _ rfl
    refine (show WL _ _ _ _ _ [(0, vu a0), (1, vu a1), (5, vu e), (6, vu j), (22, vB ((decide (e = 0)) && (decide (j = 0))))] _ from ?_)
    refine nl (th ?_)
    rcases cnd h with ⟨t, h⟩ | ⟨t, h⟩
    ·refine WC.condT' z t (sq (rg (wY (ya z) z (nl (th (rt (At.thenR ?_)))))))
     obtain rfl := some1 h
     have U : Stp [] (Lg.O0 (fun _ => False)) w m c := (tr_ (su_ l z) (su_ d z))
     exact At.res (.inl z) z (.tmp z .nil) ⟨z, (se_ U z z)⟩
    ·refine WC.condF' z t (sk (th (sq (sq (rg (wY (ym z) z (wY (Y.geq_u (b := 9223372036854775808) z z) z (wY (ym z) z ?_))))))))
     refine WL.cut 3 (σ := Unit) (fun _ w' => c = w') (fun _ => [(0, vu a0), (1, vu a1), (5, vu e), (6, vu j), (28, vB ((decide (9223372036854775808 ≤ a0)) && (decide (9223372036854775808 ≤ a1))))]) ?_ ?_
     ·refine WL.part 25 z (fun C => ?_) (fun C => ?_)
      ·refine ug z z (wY (ym z) z (ug z z (wY (Y.geq_u (b := 9223372036854775808) z z) z (wY (Y.pick (b := true) z z) z (WL.ren (v' := vB ((decide (9223372036854775808 ≤ a0)) && (decide (9223372036854775808 ≤ a1)))) 28 z (congrArg vB (andT C)) ?_)))))
       exact nl (At.join () z (.cons z (.cons z (.cons z (.cons z (.cons z .nil))))))
      ·refine WL.gS z z z z (WL.gS z z z z (wY (Y.pick (b := false) z z) z (WL.ren (v' := vB ((decide (9223372036854775808 ≤ a0)) && (decide (9223372036854775808 ≤ a1)))) 28 z (congrArg vB (andF C)) ?_)))
       exact nl (At.join () z (.cons z (.cons z (.cons z (.cons z (.cons z .nil))))))
     ·rintro _ _ rfl
      refine (show WL _ _ _ _ _ [(0, vu a0), (1, vu a1), (5, vu e), (6, vu j), (28, vB ((decide (9223372036854775808 ≤ a0)) && (decide (9223372036854775808 ≤ a1))))] _ from ?_)
      refine nl (th ?_)
      rcases cnd h with ⟨D, h⟩ | ⟨D, h⟩
      ·refine WC.condT' z D (sq (rg (wY (ym z) z (wY (ym z) z (wY (Y.gtr_u z z) z ?_)))))
       obtain ⟨aq, W, h⟩ := lt1 h
       refine WL.yE (ya z) (congrArg vB W.symm) z (nl (th (rt (At.thenR ?_))))
       obtain rfl := some1 h
       have X : Stp [] (Lg.O0 (fun _ => False)) w m c := (tr_ (su_ l z) (su_ d z))
       exact At.res (.inl z) z (.tmp z .nil) ⟨z, (se_ X z z)⟩
      ·refine WC.condF' z D (sk (th (sq (sq (rg (wY (ym z) z (wY (Y.lss_u (b := 9223372036854775808) z z) z (wY (ym z) z ?_))))))))
       refine WL.cut 3 (σ := Unit) (fun _ w' => c = w') (fun _ => [(0, vu a0), (5, vu e), (6, vu j), (37, vB ((decide (a0 < 9223372036854775808)) && (decide (a1 < 9223372036854775808))))]) ?_ ?_
       ·refine WL.part 34 z (fun E => ?_) (fun E => ?_)
        ·refine ug z z (wY (ym z) z (ug z z (wY (Y.lss_u (b := 9223372036854775808) z z) z (wY (Y.pick (b := true) z z) z (WL.ren (v' := vB ((decide (a0 < 9223372036854775808)) && (decide (a1 < 9223372036854775808)))) 37 z (congrArg vB (andT E)) ?_)))))
         exact nl (At.join () z (.cons z (.cons z (.cons z (.cons z .nil)))))
        ·refine WL.gS z z z z (WL.gS z z z z (wY (Y.pick (b := false) z z) z (WL.ren (v' := vB ((decide (a0 < 9223372036854775808)) && (decide (a1 < 9223372036854775808)))) 37 z (congrArg vB (andF E)) ?_)))
         exact nl (At.join () z (.cons z (.cons z (.cons z (.cons z .nil)))))
       ·rintro _ _ rfl
        refine (show WL _ _ _ _ _ [(0, vu a0), (5, vu e), (6, vu j), (37, vB ((decide (a0 < 9223372036854775808)) && (decide (a1 < 9223372036854775808))))] _ from ?_)
        refine nl (th ?_)
        rcases cnd h with ⟨F, h⟩ | ⟨F, h⟩
        ·refine WC.condT' z F (sq (rg (wY (ym z) z (wY (ym z) z (wY (Y.lss_u z z) z ?_)))))
         obtain ⟨ar, Z, h⟩ := lt1 h
         refine WL.yE (ya z) (congrArg vB Z.symm) z (nl (th (rt (At.thenR ?_))))
         obtain rfl := some1 h
         have aa : Stp [] (Lg.O0 (fun _ => False)) w m c := (tr_ (su_ l z) (su_ d z))
         exact At.res (.inl z) z (.tmp z .nil) ⟨z, (se_ aa z z)⟩
        ·refine WC.condF' z F (sk (th (sq (rg (wY (ym z) z (wY (Y.geq_u (b := 9223372036854775808) z z) z ?_))))))
         obtain ⟨au, ab, h⟩ := lt1 h
         refine WL.yE (ya z) (congrArg vB ab.symm) z (nl (th (rt ?_)))
         obtain rfl := some1 h
         have ac : Stp [] (Lg.O0 (fun _ => False)) w m c := (tr_ (su_ l z) (su_ d z))
         exact At.res (.inl z) z (.tmp z .nil) ⟨z, (se_ ac z z)⟩
theorem c_ref08_side {A : Nat → Prop} {v0_1 : Value} {a0 : api_Side} {w : World} (hs0_1 : Sl Rep.u w A v0_1 a0.Counts) {r0 : Int} (h : ref08_side a0 = some r0) : Rets Tryz.prog 96 [ag [vi a0.Offset, v0_1]] w (fun v w' => v = vi r0 ∧ Ext w w') := by
 unfold ref08_side at h
 refine Rets.enter Tryz.func96 z z ?_
 have J : Sl Rep.u w (imm (Lg.O0 A)) v0_1 a0.Counts := (Sl.start hs0_1)
 refine (show WC _ _ _ _ [(0, ag [vi a0.Offset, v0_1])] _ from ?_)
 refine sq (rg ?_)
 have T := h
 obtain ⟨ao, ap, aq, rfl⟩ := J.shape
 have h := T
 refine WL.box (O := (Lg.O0 A)) 11 [vi a0.Offset, (vl ao ap aq)] z z z ?_
 intro I l c d j
 refine wY (ya z) z (nl (th (sq (rg (wY (yf fo36_1 z) z (wY (yl ty34 z z (j.cell 1 _ z)) z ?_))))))
 have m := J.i d z z
 refine wY (Y.len ty34 z m) z ?_
 obtain ⟨e, K, h⟩ := lt1 h
 refine WL.yE (ya z) (congrArg vi K.symm) z (nl (th (sq (sq (rg (wY (ym z) z (wY (Y.gtr_i z z) z (nl (th ?_)))))))))
 rcases cnd h with ⟨o, h⟩ | ⟨o, h⟩
 ·refine WC.condT' z o (sq (rg (wY (ya z) z (nl (th (rt (At.thenR ?_)))))))
  obtain rfl := some1 h
  have U : Stp [] (Lg.O0 A) w l c := (su_ d z)
  exact At.res (.inl z) z (.tmp z .nil) ⟨z, (se_ U z z)⟩
 ·refine WC.condF' z o (sk (th (sq (sq (rg (wY (ym z) z (wY (Y.eql_i z z) z (nl (th ?_)))))))))
  rcases cnd h with ⟨p, h⟩ | ⟨p, h⟩
  ·refine WC.condT' z p (sq (sq (rg (wY (yf fo36_0 z) z (wY (yl ty3 z z (j.cell 0 _ z)) z (wY (Y.neq_i z z) z (nl (th ?_))))))))
   rcases cnd h with ⟨r, h⟩ | ⟨r, h⟩
   ·refine WC.condT' z r (sq (rg (wY (ya z) z (nl (th (rt (At.thenR (At.thenR ?_))))))))
    obtain rfl := some1 h
    have W : Stp [] (Lg.O0 A) w l c := (su_ d z)
    exact At.res (.inl z) z (.tmp z .nil) ⟨z, (se_ W z z)⟩
   ·refine WC.condF' z r (sk (th (sq (rg (wY (ya z) z (nl (th (rt (At.thenR ?_)))))))))
    obtain rfl := some1 h
    have X : Stp [] (Lg.O0 A) w l c := (su_ d z)
    exact At.res (.inl z) z (.tmp z .nil) ⟨z, (se_ X z z)⟩
  ·refine WC.condF' z p (sk (th (sq (sq (rg (wY (yf fo36_1 z) z (wY (yl ty34 z z (j.cell 1 _ z)) z ?_)))))))
   obtain ⟨ar, Z, h⟩ := bnd h
   obtain ⟨aE, ax, ay, aC, aa, ab, ac, t, L, ad⟩ := Sl.at2 m Z
   obtain rfl := L
   replace t : CellsAt _ _ _ [vu ar] := t
   have M := CAt.imm t ad
   refine wY (Y.indexAddr ty34 ty33 z aa z ab ac) z (wY (yl ty33 z z M.at_) z (wY (Y.eql_u (b := 0) z z) z (wY (ym z) z ?_)))
   obtain ⟨au, h, ae⟩ := bnd h
   refine WL.cut 8 (σ := Bool) (fun x w' => x = au ∧ c = w') (fun x => [(1, pt I 0), (3, vi e), (27, vB x)]) ?_ ?_
   ·rcases cnd h with ⟨C, h⟩ | ⟨C, h⟩
    ·refine WL.ren 19 z (congrArg vB C) (WL.gS z z z z (WL.gS z z z z (WL.gS z z z z (WL.gS z z z z (WL.gS z z z z (WL.gS z z z z (WL.gS z z z z (wY (Y.pick (b := true) z z) z ?_))))))))
     exact nl (At.join (σ := Bool) true ⟨some1 h, z⟩ (.cons z (.cons z (.cons z .nil))))
    ·refine WL.ren 19 z (congrArg vB C) (ug z z (wY (yf fo36_1 z) z (ug z z (wY (yl ty34 z z (j.cell 1 _ z)) z (ug z z (wY (ym z) z (ug z z (wY (Y.sub_i z z) z (ug z z ?_)))))))))
     obtain ⟨S, af, h⟩ := bnd h
     obtain ⟨aF, az, aA, aD, ah, ai, aj, D, P, ak⟩ := Sl.at2 m af
     obtain rfl := P
     replace D : CellsAt _ _ _ [vu S] := D
     have Q := CAt.imm D ak
     refine wY (Y.indexAddr ty34 ty33 z ah z ai aj) z (ug z z (wY (yl ty33 z z Q.at_) z (ug z z (wY (Y.eql_u (b := 0) z z) z (wY (Y.pick (b := false) z z) z ?_)))))
     exact nl (At.join (σ := Bool) (decide (S = 0)) ⟨some1 h, z⟩ (.cons z (.cons z (.cons z .nil))))
   ·rintro av _ ⟨rfl, rfl⟩
    replace h := ae
    try dsimp only at h
    refine (show WL _ _ _ _ _ [(1, pt I 0), (3, vi e), (27, vB av)] _ from ?_)
    refine nl (th ?_)
    rcases cnd h with ⟨E, h⟩ | ⟨E, h⟩
    ·refine WC.condT' z E (sq (rg (wY (ya z) z (nl (th (rt (At.thenR ?_)))))))
     obtain rfl := some1 h
     have al : Stp [] (Lg.O0 A) w l c := (su_ d z)
     exact At.res (.inl z) z (.tmp z .nil) ⟨z, (se_ al z z)⟩
    ·refine WC.condF' z E (sk (th (sq (sq (rg (wY (yf fo36_0 z) z (wY (yl ty3 z z (j.cell 0 _ z)) z (wY (Y.lss_i z z) z (wY (ym z) z ?_)))))))))
     refine WL.cut 4 (σ := Unit) (fun _ w' => c = w') (fun _ => [(1, pt I 0), (3, vi e), (35, vB ((decide (a0.Offset < (-1073741824))) || (decide (1073741824 < a0.Offset))))]) ?_ ?_
     ·refine WL.part 31 z (fun F => ?_) (fun F => ?_)
      ·refine WL.gS z z z z (WL.gS z z z z (WL.gS z z z z (wY (Y.pick (b := true) z z) z (WL.ren (v' := vB ((decide (a0.Offset < (-1073741824))) || (decide (1073741824 < a0.Offset)))) 35 z (congrArg vB (orT F)) ?_))))
       exact nl (At.join () z (.cons z (.cons z (.cons z .nil))))
      ·refine ug z z (wY (yf fo36_0 z) z (ug z z (wY (yl ty3 z z (j.cell 0 _ z)) z (ug z z (wY (Y.gtr_i z z) z (wY (Y.pick (b := false) z z) z (WL.ren (v' := vB ((decide (a0.Offset < (-1073741824))) || (decide (1073741824 < a0.Offset)))) 35 z (congrArg vB (orF F)) ?_)))))))
       exact nl (At.join () z (.cons z (.cons z (.cons z .nil))))
     ·rintro _ _ rfl
      refine (show WL _ _ _ _ _ [(1, pt I 0), (3, vi e), (35, vB ((decide (a0.Offset < (-1073741824))) || (decide (1073741824 < a0.Offset))))] _ from ?_)
      refine wY (ym z) z ?_
      refine WL.cut 7 (σ := Unit) (fun _ w' => c = w') (fun _ => [(43, vB (((decide (a0.Offset < (-1073741824))) || (decide (1073741824 < a0.Offset))) || (decide (1073741824 < w64 ((w64 (a0.Offset + e)) - 1)))))]) ?_ ?_
      ·refine WL.part 36 z (fun G => ?_) (fun G => ?_)
       ·refine WL.gS z z z z (WL.gS z z z z (WL.gS z z z z (WL.gS z z z z (WL.gS z z z z (WL.gS z z z z (wY (Y.pick (b := true) z z) z (WL.ren (v' := vB (((decide (a0.Offset < (-1073741824))) || (decide (1073741824 < a0.Offset))) || (decide (1073741824 < w64 ((w64 (a0.Offset + e)) - 1))))) 43 z (congrArg vB (orT G)) ?_)))))))
        exact nl (At.join () z (.cons z .nil))
       ·refine ug z z (wY (yf fo36_0 z) z (ug z z (wY (yl ty3 z z (j.cell 0 _ z)) z (ug z z (wY (ym z) z (ug z z (wY (Y.add_i z z) z (ug z z (wY (Y.sub_i z z) z ?_)))))))))
        refine ug z z (wY (Y.gtr_i z z) z (wY (Y.pick (b := false) z z) z (WL.ren (v' := vB (((decide (a0.Offset < (-1073741824))) || (decide (1073741824 < a0.Offset))) || (decide (1073741824 < w64 ((w64 (a0.Offset + e)) - 1))))) 43 z (congrArg vB (orF G)) ?_)))
        exact nl (At.join () z (.cons z .nil))
      ·rintro _ _ rfl
       refine (show WL _ _ _ _ _ [(43, vB (((decide (a0.Offset < (-1073741824))) || (decide (1073741824 < a0.Offset))) || (decide (1073741824 < w64 ((w64 (a0.Offset + e)) - 1)))))] _ from ?_)
       refine nl (th ?_)
       rcases cnd h with ⟨H, h⟩ | ⟨H, h⟩
       ·refine WC.condT' z H (sq (rg (wY (ya z) z (nl (th (rt (At.thenR ?_)))))))
        obtain rfl := some1 h
        have am : Stp [] (Lg.O0 A) w l c := (su_ d z)
        exact At.res (.inl z) z (.tmp z .nil) ⟨z, (se_ am z z)⟩
       ·refine WC.condF' z H (sk (th (sq (rg (wY (ya z) z (nl (th (rt ?_))))))))
        obtain rfl := some1 h
        have an : Stp [] (Lg.O0 A) w l c := (su_ d z)
        exact At.res (.inl z) z (.tmp z .nil) ⟨z, (se_ an z z)⟩
theorem c_ref08_sum {A : Nat → Prop} {a0 : UInt64} {a1 : List UInt64} {v1 : Value} {w : World} (hs1 : Sl Rep.u w A v1 a1) {r0 : UInt64} {r1 : Bool} (h : ref08_sum a0 a1 = some (r0, r1)) : Rets Tryz.prog 129 [vu a0, v1] w (fun v w' => v = tp [vu r0, vB r1] ∧ Ext w w') := by
 unfold ref08_sum at h
 refine Rets.enter Tryz.func129 z z ?_
 have c : Sl Rep.u w (imm (Lg.O0 A)) v1 a1 := (Sl.start hs1)
 refine (show WC _ _ _ _ [(0, vu a0), (1, v1)] _ from ?_)
 refine sq (rg (wY (ya (v := vu 0) z) z (wY (ya z) z (nl (th (sq (sq (rg (wY (ya z) z ?_)))))))))
 refine nl (th (WC.block ?_))
 obtain ⟨D, h, o⟩ := flow1 h
 obtain ⟨E, h⟩ := loop_some h
 refine WC.joinB 0 (σ := UInt64) (fun x w' => D = .go x ∧ w = w') (fun x => [(0, vu x)]) ?_ ?_
 ·refine WC.loop (σ := (UInt64 × Int)) (fun x k w' => loopN k (ref08_sum_lp1 a1) (x.1, x.2) = some D ∧ w = w') (fun x => [(0, vu x.1), (1, v1), (6, vi x.2)]) (a0, 0) E (.cons z (.cons z (.cons z .nil))) ⟨h, z⟩ ?_
  rintro ⟨F, Z⟩ E _ ⟨h, rfl⟩
  obtain ⟨aa, an, rfl, h, d⟩ := rnd1 h
  unfold ref08_sum_lp1 at h
  try dsimp only at h
  refine (show WC _ _ _ _ [(0, vu F), (1, v1), (6, vi Z)] _ from ?_)
  refine sq (sq (rg (wY (ym z) z (wY (ym z) z (wY (Y.len ty34 z c) z (wY (Y.lss_i z z) z (nl (th ?_))))))))
  rcases cnd h with ⟨e, h⟩ | ⟨e, h⟩
  ·refine WC.condT' z e (sk (th (sq (WC.block (sq (sq (rg (wY (ym z) z (wY (ym z) z ?_)))))))))
   obtain ⟨ab, G, h⟩ := bnd h
   obtain ⟨ao, ah, ai, al, H, I, J, j, p, K⟩ := Sl.at2 c G
   obtain rfl := p
   replace j : CellsAt _ _ _ [vu ab] := j
   have r := CAt.imm j K
   refine wY (Y.indexAddr ty34 ty33 z H z I J) z (wY (yl ty33 z z r.at_) z (wY (ym z) z (wY (Y.sub_u (a := 18446744073709551615) z z) z (wY (Y.gtr_u z z) z (nl (th ?_))))))
   rcases cnd h with ⟨l, h⟩ | ⟨l, h⟩
   ·refine WC.condT' z l (sq (rg (wY (ya (v := vu 0) z) z (wY (ya z) z (nl (th (rt (At.thenR (At.inBlockR ?_)))))))))
    refine At.thenR (At.loopR ?_)
    have h := outr1 h d o
    refine At.joinBR (At.inBlockR (At.thenR ?_))
    obtain ⟨rfl, rfl⟩ := tup2 h
    have L : Stp [] (Lg.O0 A) w (Lg.O0 A) w := (sr_ _ _ _)
    exact At.res (.inl z) z (.tmp z (.tmp z .nil)) ⟨z, (se_ L z z)⟩
   ·refine WC.condF' z l (sk (th (rg (wY (ym z) z (wY (ym z) z (wY (ym z) z ?_))))))
    obtain ⟨ac, M, h⟩ := bnd h
    obtain ⟨ap, aj, ak, am, P, Q, S, m, t, T⟩ := Sl.at2 c M
    obtain rfl := t
    replace m : CellsAt _ _ _ [vu ac] := m
    have C := CAt.imm m T
    refine wY (Y.indexAddr ty34 ty33 z P z Q S) z (wY (yl ty33 z z C.at_) z (wY (Y.add_u z z) z ?_))
    obtain ⟨ad, U, h⟩ := lt1 h
    refine WL.yE (ya z) (congrArg vu U.symm) z (nl (At.inBlock (th (rg (wY (ym z) z (wY (Y.add_i z z) z ?_))))))
    obtain ⟨ae, W, h⟩ := lt1 h
    refine WL.yE (ya z) (congrArg vi W.symm) z (nl ?_)
    exact At.round (ad, ae) aa (Nat.lt_succ_self _) ⟨next1 h d, z⟩ (.cons z (.cons z (.cons z .nil)))
  ·refine WC.condF' z e (WC.exit (At.thenX (At.loopX ?_)))
   exact At.hitB (σ := UInt64) F ⟨brk1 h d, z⟩ (.cons z .nil)
 ·rintro af _ ⟨rfl, rfl⟩
  replace h := flowK_go o
  try dsimp only at h
  refine (show At _ _ _ [(0, vu af)] _ from ?_)
  refine At.inBlockHit (th (sq (rg (wY (ym z) z (wY (ya z) z (wY (ya z) z (nl (th (rt ?_)))))))))
  obtain ⟨rfl, rfl⟩ := tup2 h
  have X : Stp [] (Lg.O0 A) w (Lg.O0 A) w := (sr_ _ _ _)
  exact At.res (.inl z) z (.tmp z (.tmp z .nil)) ⟨z, (se_ X z z)⟩
theorem c_ref08_Total {A : Nat → Prop} {v0_3 : Value} {v0_5 : Value} {a0 : api_Hist} {w : World} (hs0_3 : Sl Rep.u w A v0_3 a0.Pos.Counts) (hs0_5 : Sl Rep.u w A v0_5 a0.Neg.Counts) {r0 : UInt64} {r1 : Bool} (h : ref08_Total a0 = some (r0, r1)) : Rets Tryz.prog 97 [ag (hl a0 v0_3 v0_5)] w (fun v w' => v = tp [vu r0, vB r1] ∧ Ext w w') := by
 unfold ref08_Total at h
 refine Rets.enter Tryz.func97 z z ?_
 have l : Sl Rep.u w (imm (Lg.O0 A)) v0_3 a0.Pos.Counts := (Sl.start hs0_3)
 have m : Sl Rep.u w (imm (Lg.O0 A)) v0_5 a0.Neg.Counts := (Sl.start hs0_5)
 refine (show WC _ _ _ _ [(0, ag (hl a0 v0_3 v0_5))] _ from ?_)
 refine sq (rg ?_)
 have G := h
 obtain ⟨p, r, t, rfl⟩ := l.shape
 have h := G
 have H := h
 obtain ⟨C, D, E, rfl⟩ := m.shape
 have h := H
 refine WL.box (O := (Lg.O0 A)) 11 (hl a0 (vl p r t) (vl C D E)) z z z ?_
 intro ak Z ah c e
 refine wY (ya (v := vu 0) z) z (wY (ya z) z (nl (th (sq (rg (wY (yf fo38_1 z) z (wY (yl ty33 z z (e.cell 1 _ z)) z (wY (yf fo38_2 z) z (wY (yf fo36_1 z) z ?_)))))))))
 refine wY (yl ty34 z z (e.cell 3 _ z)) z ?_
 have I := l.i c z z
 obtain ⟨⟨aa, al⟩, J, h⟩ := bnd h
 refine WL.call (vals := [vu a0.Zero, (vl p r t)]) kok129 z z (c_ref08_sum (A := fun _ => True) (Sl.all I) J) ?_
 rintro ai K ⟨rfl, L⟩
 obtain ⟨F, ab, ac, d⟩ := adoptE Z (fun k => 1) L
 refine wY (ym z) z (wY (yx z z) z (wY (yx z z) z (wY (ya z) z (wY (ya z) z (nl (th (sq (sq (rg ?_)))))))))
 refine wY (ym z) z (wY (Y.not z) z (nl (th ?_)))
 rcases cnd h with ⟨j, h⟩ | ⟨j, h⟩
 ·refine WC.condT' z j (sq (rg (wY (ya (v := vu 0) z) z (wY (ya z) z (nl (th (rt (At.thenR ?_))))))))
  obtain ⟨rfl, rfl⟩ := tup2 h
  have M : Stp [] (Lg.O0 A) w F K := (tr_ (su_ c z) (su_ d z))
  exact At.res (.inl z) z (.tmp z (.tmp z .nil)) ⟨z, (se_ M z z)⟩
 ·refine WC.condF' z j (sk (th (sq (rg (wY (ym z) z (wY (yf fo38_3 z) z (wY (yf fo36_1 z) z ?_)))))))
  have P := e.st d z
  refine wY (yl ty34 z z (P.cell 5 _ z)) z ?_
  have S := (m.i c z z).i d z z
  obtain ⟨⟨am, an⟩, T, h⟩ := bnd h
  refine WL.call (vals := [vu aa, (vl C D E)]) kok129 z z (c_ref08_sum (A := fun _ => True) (Sl.all S) T) ?_
  rintro aj U ⟨rfl, W⟩
  obtain ⟨ad, ae, af, o⟩ := adoptE F (fun k => 1) W
  refine wY (yx z z) z (wY (yx z z) z (wY (ya z) z (wY (ya z) z (nl (th (rt ?_))))))
  obtain ⟨rfl, rfl⟩ := tup2 h
  have X : Stp [] (Lg.O0 A) w ad U := (tr_ (su_ c z) (tr_ (su_ d z) (su_ o z)))
  exact At.res (.inl z) z (.tmp z (.tmp z .nil)) ⟨z, (se_ X z z)⟩
theorem c_ref08_Check {A : Nat → Prop} {v0_3 : Value} {v0_5 : Value} {a0 : api_Hist} {w : World} (hs0_3 : Sl Rep.u w A v0_3 a0.Pos.Counts) (hs0_5 : Sl Rep.u w A v0_5 a0.Neg.Counts) {r0 : Int} (h : ref08_Check a0 = some r0) : Rets Tryz.prog 56 [ag (hl a0 v0_3 v0_5)] w (fun v w' => v = vi r0 ∧ Ext w w') := by
 unfold ref08_Check at h
 refine Rets.enter Tryz.func56 z z ?_
 have I : Sl Rep.u w (imm (Lg.O0 A)) v0_3 a0.Pos.Counts := (Sl.start hs0_3)
 have J : Sl Rep.u w (imm (Lg.O0 A)) v0_5 a0.Neg.Counts := (Sl.start hs0_5)
 refine (show WC _ _ _ _ [(0, ag (hl a0 v0_3 v0_5))] _ from ?_)
 refine sq (rg ?_)
 have Z := h
 obtain ⟨l, m, o, rfl⟩ := I.shape
 have h := Z
 have aa := h
 obtain ⟨p, r, t, rfl⟩ := J.shape
 have h := aa
 refine WL.box (O := (Lg.O0 A)) 11 (hl a0 (vl l m o) (vl p r t)) z z z ?_
 intro S T K c j
 refine wY (ya z) z (nl (th (sq (sq (rg (wY (yf fo38_0 z) z (wY (yl ty3 z z (j.cell 0 _ z)) z (wY (Y.lss_i z z) z (wY (ym z) z ?_)))))))))
 refine WL.cut 4 (σ := Unit) (fun _ w' => K = w') (fun _ => [(1, pt S 0), (14, vB ((decide (a0.Scale < (-10))) || (decide (20 < a0.Scale))))]) ?_ ?_
 ·refine WL.part 10 z (fun C => ?_) (fun C => ?_)
  ·refine WL.gS z z z z (WL.gS z z z z (WL.gS z z z z (wY (Y.pick (b := true) z z) z (WL.ren (v' := vB ((decide (a0.Scale < (-10))) || (decide (20 < a0.Scale)))) 14 z (congrArg vB (orT C)) ?_))))
   exact nl (At.join () z (.cons z (.cons z .nil)))
  ·refine ug z z (wY (yf fo38_0 z) z (ug z z (wY (yl ty3 z z (j.cell 0 _ z)) z (ug z z (wY (Y.gtr_i z z) z (wY (Y.pick (b := false) z z) z (WL.ren (v' := vB ((decide (a0.Scale < (-10))) || (decide (20 < a0.Scale)))) 14 z (congrArg vB (orF C)) ?_)))))))
   exact nl (At.join () z (.cons z (.cons z .nil)))
 ·rintro _ _ rfl
  refine (show WL _ _ _ _ _ [(1, pt S 0), (14, vB ((decide (a0.Scale < (-10))) || (decide (20 < a0.Scale))))] _ from ?_)
  refine nl (th ?_)
  rcases cnd h with ⟨D, h⟩ | ⟨D, h⟩
  ·refine WC.condT' z D (sq (rg (wY (ya z) z (nl (th (rt (At.thenR ?_)))))))
   obtain rfl := some1 h
   have ab : Stp [] (Lg.O0 A) w T K := (su_ c z)
   exact At.res (.inl z) z (.tmp z .nil) ⟨z, (se_ ab z z)⟩
  ·refine WC.condF' z D (sk (th (sq (sq (rg (wY (yf fo38_2 z) z (wY (yL ty36 z z (j.cells 2 [vi a0.Pos.Offset, (vl l m o)] z) z) z ?_)))))))
   have L := I.i c z z
   obtain ⟨aH, ac, h⟩ := bnd h
   refine WL.call (vals := [ag [vi a0.Pos.Offset, (vl l m o)]]) kok96 z z (c_ref08_side (A := fun _ => True) (a0 := a0.Pos) (Sl.all L) ac) ?_
   rintro aE ad ⟨rfl, ae⟩
   obtain ⟨U, ax, ay, d⟩ := adoptE T (fun k => 1) ae
   refine wY (ya z) z (nl (th (sq (rg (wY (ym z) z (wY (Y.neq_i z z) z (nl (th ?_))))))))
   rcases cnd h with ⟨E, h⟩ | ⟨E, h⟩
   ·refine WC.condT' z E (sq (rg (wY (ym z) z (wY (ya z) z (nl (th (rt (At.thenR ?_))))))))
    obtain rfl := some1 h
    have af : Stp [] (Lg.O0 A) w U ad := (tr_ (su_ c z) (su_ d z))
    exact At.res (.inl z) z (.tmp z .nil) ⟨z, (se_ af z z)⟩
   ·refine WC.condF' z E (sk (th (sq (sq (rg (wY (yf fo38_3 z) z ?_))))))
    have M := j.st d z
    refine wY (yL ty36 z z (M.cells 4 [vi a0.Neg.Offset, (vl p r t)] z) z) z ?_
    have P := (J.i c z z).i d z z
    obtain ⟨aI, ai, h⟩ := bnd h
    refine WL.call (vals := [ag [vi a0.Neg.Offset, (vl p r t)]]) kok96 z z (c_ref08_side (A := fun _ => True) (a0 := a0.Neg) (Sl.all P) ai) ?_
    rintro aF aj ⟨rfl, ak⟩
    obtain ⟨W, az, aA, e⟩ := adoptE U (fun k => 1) ak
    refine wY (ya z) z (nl (th (sq (rg (wY (ym z) z (wY (Y.neq_i z z) z (nl (th ?_))))))))
    rcases cnd h with ⟨F, h⟩ | ⟨F, h⟩
    ·refine WC.condT' z F (sq (rg (wY (ym z) z (wY (ya z) z (nl (th (rt (At.thenR ?_))))))))
     obtain rfl := some1 h
     have al : Stp [] (Lg.O0 A) w W aj := (tr_ (su_ c z) (tr_ (su_ d z) (su_ e z)))
     exact At.res (.inl z) z (.tmp z .nil) ⟨z, (se_ al z z)⟩
    ·refine WC.condF' z F (sk (th (sq (sq (rg ?_)))))
     have am := M.st e z
     refine wY (yL ty38 z z (am.cells 0 (hl a0 (vl l m o) (vl p r t)) z) z) z ?_
     have ao := (L.i d z z).i e z z
     have ap := P.i e z z
     obtain ⟨⟨aJ, aK⟩, aq, h⟩ := bnd h
     refine WL.call (vals := [ag (hl a0 (vl l m o) (vl p r t))]) kok97 z z (c_ref08_Total (A := fun _ => True) (a0 := a0) (Sl.all ao) (Sl.all ap) aq) ?_
     rintro aG Q ⟨rfl, ar⟩
     obtain ⟨X, aC, aD, H⟩ := adoptE W (fun k => 1) ar
     refine wY (ym z) z (wY (yx z z) z (wY (yx z z) z (wY (ya z) z (wY (ya z) z (nl (th (sq (rg (wY (ym z) z ?_)))))))))
     refine wY (Y.not z) z (nl (th ?_))
     rcases cnd h with ⟨G, h⟩ | ⟨G, h⟩
     ·refine WC.condT' z G (sq (rg (wY (ya z) z (nl (th (rt (At.thenR ?_)))))))
      obtain rfl := some1 h
      have au : Stp [] (Lg.O0 A) w X Q := (tr_ (su_ c z) (tr_ (su_ d z) (tr_ (su_ e z) (su_ H z))))
      exact At.res (.inl z) z (.tmp z .nil) ⟨z, (se_ au z z)⟩
     ·refine WC.condF' z G (sk (th (sq (rg (wY (ya z) z (nl (th (rt ?_))))))))
      obtain rfl := some1 h
      have av : Stp [] (Lg.O0 A) w X Q := (tr_ (su_ c z) (tr_ (su_ d z) (tr_ (su_ e z) (su_ H z))))
      exact At.res (.inl z) z (.tmp z .nil) ⟨z, (se_ av z z)⟩
theorem c_ref12_Check {A : Nat → Prop} {v0_1 : Value} {v0_13 : Value} {v0_15 : Value} {a0 : api_Point} {w : World} (hs0_1 : Sl rep_api_Pair w A v0_1 a0.Attrs) (hs0_13 : Sl Rep.u w A v0_13 a0.Hist.Pos.Counts) (hs0_15 : Sl Rep.u w A v0_15 a0.Hist.Neg.Counts) {r0 : Int} (h : ref12_Check a0 = some r0) : Rets Tryz.prog 24 [ag (cp a0 v0_1 v0_13 v0_15)] w (fun v w' => v = vi r0 ∧ Ext w w') := by
 unfold ref12_Check at h
 refine Rets.enter Tryz.func24 z z ?_
 have aS : Sl rep_api_Pair w (imm (Lg.O0 A)) v0_1 a0.Attrs := (Sl.start hs0_1)
 have ai : Sl Rep.u w (imm (Lg.O0 A)) v0_13 a0.Hist.Pos.Counts := (Sl.start hs0_13)
 have aj : Sl Rep.u w (imm (Lg.O0 A)) v0_15 a0.Hist.Neg.Counts := (Sl.start hs0_15)
 refine (show WC _ _ _ _ [(0, ag (cp a0 v0_1 v0_13 v0_15))] _ from ?_)
 refine sq (rg ?_)
 have bs := h
 obtain ⟨bo, bp, bq, rfl⟩ := aS.shape
 have h := bs
 have bt := h
 obtain ⟨aa, ab, ac, rfl⟩ := ai.shape
 have h := bt
 have bu := h
 obtain ⟨ad, ae, af, rfl⟩ := aj.shape
 have h := bu
 refine WL.box (O := (Lg.O0 A)) 11 (cp a0 (vl bo bp bq) (vl aa ab ac) (vl ad ae af)) z z z ?_
 intro c b5 cl j ak
 refine wY (ya z) z (nl (th (sq (sq (rg (wY (yf fo40_0 z) z (wY (yl ty9 z z (ak.cell 0 _ z)) z (wY (yf fo40_1 z) z (wY (yl ty32 z z (ak.cell 1 _ z)) z ?_)))))))))
 have bw := aS.i j z z
 obtain ⟨cs, bx, h⟩ := bnd h
 refine WL.call (vals := [vs a0.Name, (vl bo bp bq)]) kok52 z z (c_ref11_Check (A := fun _ => True) (Sl.all bw) bx) ?_
 rintro cm e ⟨rfl, bz⟩
 obtain ⟨C, b6, b7, l⟩ := adoptE b5 (fun k => 1) bz
 refine wY (ya z) z (nl (th (sq (rg (wY (ym z) z (wY (Y.neq_i z z) z (nl (th ?_))))))))
 rcases cnd h with ⟨al, h⟩ | ⟨al, h⟩
 ·refine WC.condT' z al (sq (rg (wY (ym z) z (wY (ya z) z (nl (th (rt (At.thenR ?_))))))))
  obtain rfl := some1 h
  have bA : Stp [] (Lg.O0 A) w C e := (tr_ (su_ j z) (su_ l z))
  exact At.res (.inl z) z (.tmp z .nil) ⟨z, (se_ bA z z)⟩
 ·refine WC.condF' z al (sk (th (sq (sq (rg (wY (yf fo40_2 z) z ?_))))))
  have d := ak.st l z
  refine wY (yl ty3 z z (d.cell 2 _ z)) z (wY (Y.lss_i z z) z (wY (ym z) z ?_))
  refine WL.cut 4 (σ := Unit) (fun _ w' => e = w') (fun _ => [(1, pt c 0), (19, vB ((decide (a0.Kind < 1)) || (decide (5 < a0.Kind))))]) ?_ ?_
  ·refine WL.part 15 z (fun am => ?_) (fun am => ?_)
   ·refine WL.gS z z z z (WL.gS z z z z (WL.gS z z z z (wY (Y.pick (b := true) z z) z (WL.ren (v' := vB ((decide (a0.Kind < 1)) || (decide (5 < a0.Kind)))) 19 z (congrArg vB (orT am)) ?_))))
    exact nl (At.join () z (.cons z (.cons z .nil)))
   ·refine ug z z (wY (yf fo40_2 z) z (ug z z (wY (yl ty3 z z (d.cell 2 _ z)) z (ug z z (wY (Y.gtr_i z z) z (wY (Y.pick (b := false) z z) z (WL.ren (v' := vB ((decide (a0.Kind < 1)) || (decide (5 < a0.Kind)))) 19 z (congrArg vB (orF am)) ?_)))))))
    exact nl (At.join () z (.cons z (.cons z .nil)))
  ·rintro _ _ rfl
   refine (show WL _ _ _ _ _ [(1, pt c 0), (19, vB ((decide (a0.Kind < 1)) || (decide (5 < a0.Kind))))] _ from ?_)
   refine nl (th ?_)
   rcases cnd h with ⟨an, h⟩ | ⟨an, h⟩
   ·refine WC.condT' z an (sq (rg (wY (ya z) z (nl (th (rt (At.thenR ?_)))))))
    obtain rfl := some1 h
    have bB : Stp [] (Lg.O0 A) w C e := (tr_ (su_ j z) (su_ l z))
    exact At.res (.inl z) z (.tmp z .nil) ⟨z, (se_ bB z z)⟩
   ·refine WC.condF' z an (sk (th (sq (sq (rg (wY (yf fo40_2 z) z (wY (yl ty3 z z (d.cell 2 _ z)) z (wY (Y.eql_i z z) z (wY (ym z) z ?_)))))))))
    refine WL.cut 4 (σ := Unit) (fun _ w' => e = w') (fun _ => [(1, pt c 0), (27, vB ((decide (a0.Kind = 3)) && (!decide (a0.Temp = 0))))]) ?_ ?_
    ·refine WL.part 23 z (fun ao => ?_) (fun ao => ?_)
     ·refine ug z z (wY (yf fo40_3 z) z (ug z z (wY (yl ty3 z z (d.cell 3 _ z)) z (ug z z (wY (Y.neq_i z z) z (wY (Y.pick (b := true) z z) z (WL.ren (v' := vB ((decide (a0.Kind = 3)) && (!decide (a0.Temp = 0)))) 27 z (congrArg vB (andT ao)) ?_)))))))
      exact nl (At.join () z (.cons z (.cons z .nil)))
     ·refine WL.gS z z z z (WL.gS z z z z (WL.gS z z z z (wY (Y.pick (b := false) z z) z (WL.ren (v' := vB ((decide (a0.Kind = 3)) && (!decide (a0.Temp = 0)))) 27 z (congrArg vB (andF ao)) ?_))))
      exact nl (At.join () z (.cons z (.cons z .nil)))
    ·rintro _ _ rfl
     refine (show WL _ _ _ _ _ [(1, pt c 0), (27, vB ((decide (a0.Kind = 3)) && (!decide (a0.Temp = 0))))] _ from ?_)
     refine wY (ym z) z ?_
     refine WL.cut 14 (σ := Unit) (fun _ w' => e = w') (fun _ => [(1, pt c 0), (42, vB (((decide (a0.Kind = 3)) && (!decide (a0.Temp = 0))) || (((!decide (a0.Kind = 3)) && (!decide (a0.Temp = 1))) && (!decide (a0.Temp = 2)))))]) ?_ ?_
     ·refine WL.part 28 z (fun ap => ?_) (fun ap => ?_)
      ·refine WL.gS z z z z (WL.gS z z z z (WL.gS z z z z (WL.gS z z z z (WL.gS z z z z (WL.gS z z z z (WL.gS z z z z (WL.gS z z z z (WL.gS z z z z (WL.gS z z z z ?_)))))))))
       refine WL.gS z z z z (WL.gS z z z z (WL.gS z z z z (wY (Y.pick (b := true) z z) z (WL.ren (v' := vB (((decide (a0.Kind = 3)) && (!decide (a0.Temp = 0))) || (((!decide (a0.Kind = 3)) && (!decide (a0.Temp = 1))) && (!decide (a0.Temp = 2))))) 42 z (congrArg vB (orT ap)) ?_))))
       exact nl (At.join () z (.cons z (.cons z .nil)))
      ·refine ug z z (wY (yf fo40_2 z) z (ug z z (wY (yl ty3 z z (d.cell 2 _ z)) z (ug z z (wY (Y.neq_i z z) z (ug z z (wY (ym z) z ?_)))))))
       refine WL.cut 4 (σ := Unit) (fun _ w' => e = w') (fun _ => [(1, pt c 0), (28, vB false), (36, vB ((!decide (a0.Kind = 3)) && (!decide (a0.Temp = 1))))]) ?_ ?_
       ·refine WL.part 32 z (fun aq => ?_) (fun aq => ?_)
        ·refine ug z z (wY (yf fo40_3 z) z (ug z z (wY (yl ty3 z z (d.cell 3 _ z)) z (ug z z (wY (Y.neq_i z z) z (ug z z (wY (Y.pick (b := true) z z) z (WL.ren (v' := vB ((!decide (a0.Kind = 3)) && (!decide (a0.Temp = 1)))) 36 z (congrArg vB (andT aq)) ?_))))))))
         exact nl (At.join () z (.cons z (.cons z (.cons z .nil))))
        ·refine WL.gS z z z z (WL.gS z z z z (WL.gS z z z z (ug z z (wY (Y.pick (b := false) z z) z (WL.ren (v' := vB ((!decide (a0.Kind = 3)) && (!decide (a0.Temp = 1)))) 36 z (congrArg vB (andF aq)) ?_)))))
         exact nl (At.join () z (.cons z (.cons z (.cons z .nil))))
       ·rintro _ _ rfl
        refine (show WL _ _ _ _ _ [(1, pt c 0), (28, vB false), (36, vB ((!decide (a0.Kind = 3)) && (!decide (a0.Temp = 1))))] _ from ?_)
        refine ug z z (wY (ym z) z ?_)
        refine WL.cut 4 (σ := Unit) (fun _ w' => e = w') (fun _ => [(1, pt c 0), (28, vB false), (41, vB (((!decide (a0.Kind = 3)) && (!decide (a0.Temp = 1))) && (!decide (a0.Temp = 2))))]) ?_ ?_
        ·refine WL.part 37 z (fun ar => ?_) (fun ar => ?_)
         ·refine ug z z (wY (yf fo40_3 z) z (ug z z (wY (yl ty3 z z (d.cell 3 _ z)) z (ug z z (wY (Y.neq_i z z) z (ug z z (wY (Y.pick (b := true) z z) z (WL.ren (v' := vB (((!decide (a0.Kind = 3)) && (!decide (a0.Temp = 1))) && (!decide (a0.Temp = 2)))) 41 z (congrArg vB (andT ar)) ?_))))))))
          exact nl (At.join () z (.cons z (.cons z (.cons z .nil))))
         ·refine WL.gS z z z z (WL.gS z z z z (WL.gS z z z z (ug z z (wY (Y.pick (b := false) z z) z (WL.ren (v' := vB (((!decide (a0.Kind = 3)) && (!decide (a0.Temp = 1))) && (!decide (a0.Temp = 2)))) 41 z (congrArg vB (andF ar)) ?_)))))
          exact nl (At.join () z (.cons z (.cons z (.cons z .nil))))
        ·rintro _ _ rfl
         refine (show WL _ _ _ _ _ [(1, pt c 0), (28, vB false), (41, vB (((!decide (a0.Kind = 3)) && (!decide (a0.Temp = 1))) && (!decide (a0.Temp = 2))))] _ from ?_)
         refine wY (Y.pick (b := false) z z) z (WL.ren (v' := vB (((decide (a0.Kind = 3)) && (!decide (a0.Temp = 0))) || (((!decide (a0.Kind = 3)) && (!decide (a0.Temp = 1))) && (!decide (a0.Temp = 2))))) 42 z (congrArg vB (orF ap)) ?_)
         exact nl (At.join () z (.cons z (.cons z .nil)))
     ·rintro _ _ rfl
      refine (show WL _ _ _ _ _ [(1, pt c 0), (42, vB (((decide (a0.Kind = 3)) && (!decide (a0.Temp = 0))) || (((!decide (a0.Kind = 3)) && (!decide (a0.Temp = 1))) && (!decide (a0.Temp = 2)))))] _ from ?_)
      refine nl (th ?_)
      rcases cnd h with ⟨au, h⟩ | ⟨au, h⟩
      ·refine WC.condT' z au (sq (rg (wY (ya z) z (nl (th (rt (At.thenR ?_)))))))
       obtain rfl := some1 h
       have bC : Stp [] (Lg.O0 A) w C e := (tr_ (su_ j z) (su_ l z))
       exact At.res (.inl z) z (.tmp z .nil) ⟨z, (se_ bC z z)⟩
      ·refine WC.condF' z au (sk (th (sq (sq (rg (wY (yf fo40_4 z) z (wY (yl ty4 z z (d.cell 4 _ z)) z (wY (ym z) z ?_))))))))
       refine WL.cut 4 (σ := Unit) (fun _ w' => e = w') (fun _ => [(1, pt c 0), (49, vB (a0.Mono && (!decide (a0.Kind = 1))))]) ?_ ?_
       ·refine WL.part 45 z (fun av => ?_) (fun av => ?_)
        ·refine ug z z (wY (yf fo40_2 z) z (ug z z (wY (yl ty3 z z (d.cell 2 _ z)) z (ug z z (wY (Y.neq_i z z) z (wY (Y.pick (b := true) z z) z (WL.ren (v' := vB (a0.Mono && (!decide (a0.Kind = 1)))) 49 z (congrArg vB (andT av)) ?_)))))))
         exact nl (At.join () z (.cons z (.cons z .nil)))
        ·refine WL.gS z z z z (WL.gS z z z z (WL.gS z z z z (wY (Y.pick (b := false) z z) z (WL.ren (v' := vB (a0.Mono && (!decide (a0.Kind = 1)))) 49 z (congrArg vB (andF av)) ?_))))
         exact nl (At.join () z (.cons z (.cons z .nil)))
       ·rintro _ _ rfl
        refine (show WL _ _ _ _ _ [(1, pt c 0), (49, vB (a0.Mono && (!decide (a0.Kind = 1))))] _ from ?_)
        refine wY (ym z) z ?_
        refine WL.cut 4 (σ := Unit) (fun _ w' => e = w') (fun _ => [(1, pt c 0), (54, vB ((a0.Mono && (!decide (a0.Kind = 1))) && (!decide (a0.Kind = 2))))]) ?_ ?_
        ·refine WL.part 50 z (fun ax => ?_) (fun ax => ?_)
         ·refine ug z z (wY (yf fo40_2 z) z (ug z z (wY (yl ty3 z z (d.cell 2 _ z)) z (ug z z (wY (Y.neq_i z z) z (wY (Y.pick (b := true) z z) z (WL.ren (v' := vB ((a0.Mono && (!decide (a0.Kind = 1))) && (!decide (a0.Kind = 2)))) 54 z (congrArg vB (andT ax)) ?_)))))))
          exact nl (At.join () z (.cons z (.cons z .nil)))
         ·refine WL.gS z z z z (WL.gS z z z z (WL.gS z z z z (wY (Y.pick (b := false) z z) z (WL.ren (v' := vB ((a0.Mono && (!decide (a0.Kind = 1))) && (!decide (a0.Kind = 2)))) 54 z (congrArg vB (andF ax)) ?_))))
          exact nl (At.join () z (.cons z (.cons z .nil)))
        ·rintro _ _ rfl
         refine (show WL _ _ _ _ _ [(1, pt c 0), (54, vB ((a0.Mono && (!decide (a0.Kind = 1))) && (!decide (a0.Kind = 2))))] _ from ?_)
         refine nl (th ?_)
         rcases cnd h with ⟨ay, h⟩ | ⟨ay, h⟩
         ·refine WC.condT' z ay (sq (rg (wY (ya z) z (nl (th (rt (At.thenR ?_)))))))
          obtain rfl := some1 h
          have bD : Stp [] (Lg.O0 A) w C e := (tr_ (su_ j z) (su_ l z))
          exact At.res (.inl z) z (.tmp z .nil) ⟨z, (se_ bD z z)⟩
         ·refine WC.condF' z ay (sk (th (sq (sq (rg (wY (yf fo40_5 z) z (wY (yl ty3 z z (d.cell 5 _ z)) z (wY (Y.lss_i z z) z (wY (ym z) z ?_)))))))))
          refine WL.cut 4 (σ := Unit) (fun _ w' => e = w') (fun _ => [(1, pt c 0), (62, vB ((decide (a0.Start < 0)) || (decide (4503599627370496 < a0.Time))))]) ?_ ?_
          ·refine WL.part 58 z (fun az => ?_) (fun az => ?_)
           ·refine WL.gS z z z z (WL.gS z z z z (WL.gS z z z z (wY (Y.pick (b := true) z z) z (WL.ren (v' := vB ((decide (a0.Start < 0)) || (decide (4503599627370496 < a0.Time)))) 62 z (congrArg vB (orT az)) ?_))))
            exact nl (At.join () z (.cons z (.cons z .nil)))
           ·refine ug z z (wY (yf fo40_6 z) z (ug z z (wY (yl ty3 z z (d.cell 6 _ z)) z (ug z z (wY (Y.gtr_i z z) z (wY (Y.pick (b := false) z z) z (WL.ren (v' := vB ((decide (a0.Start < 0)) || (decide (4503599627370496 < a0.Time)))) 62 z (congrArg vB (orF az)) ?_)))))))
            exact nl (At.join () z (.cons z (.cons z .nil)))
          ·rintro _ _ rfl
           refine (show WL _ _ _ _ _ [(1, pt c 0), (62, vB ((decide (a0.Start < 0)) || (decide (4503599627370496 < a0.Time))))] _ from ?_)
           refine wY (ym z) z ?_
           refine WL.cut 11 (σ := Unit) (fun _ w' => e = w') (fun _ => [(1, pt c 0), (74, vB (((decide (a0.Start < 0)) || (decide (4503599627370496 < a0.Time))) || ((decide (a0.Kind = 3)) && (!decide (a0.Start = a0.Time)))))]) ?_ ?_
           ·refine WL.part 63 z (fun aA => ?_) (fun aA => ?_)
            ·refine WL.gS z z z z (WL.gS z z z z (WL.gS z z z z (WL.gS z z z z (WL.gS z z z z (WL.gS z z z z (WL.gS z z z z (WL.gS z z z z (WL.gS z z z z (WL.gS z z z z ?_)))))))))
             refine wY (Y.pick (b := true) z z) z (WL.ren (v' := vB (((decide (a0.Start < 0)) || (decide (4503599627370496 < a0.Time))) || ((decide (a0.Kind = 3)) && (!decide (a0.Start = a0.Time))))) 74 z (congrArg vB (orT aA)) ?_)
             exact nl (At.join () z (.cons z (.cons z .nil)))
            ·refine ug z z (wY (yf fo40_2 z) z (ug z z (wY (yl ty3 z z (d.cell 2 _ z)) z (ug z z (wY (Y.eql_i z z) z (ug z z (wY (ym z) z ?_)))))))
             refine WL.cut 6 (σ := Unit) (fun _ w' => e = w') (fun _ => [(1, pt c 0), (63, vB false), (73, vB ((decide (a0.Kind = 3)) && (!decide (a0.Start = a0.Time))))]) ?_ ?_
             ·refine WL.part 67 z (fun aC => ?_) (fun aC => ?_)
              ·refine ug z z (wY (yf fo40_5 z) z (ug z z (wY (yl ty3 z z (d.cell 5 _ z)) z (ug z z (wY (yf fo40_6 z) z (ug z z (wY (yl ty3 z z (d.cell 6 _ z)) z (ug z z (wY (Y.neq_i z z) z ?_)))))))))
               refine ug z z (wY (Y.pick (b := true) z z) z (WL.ren (v' := vB ((decide (a0.Kind = 3)) && (!decide (a0.Start = a0.Time)))) 73 z (congrArg vB (andT aC)) ?_))
               exact nl (At.join () z (.cons z (.cons z (.cons z .nil))))
              ·refine WL.gS z z z z (WL.gS z z z z (WL.gS z z z z (WL.gS z z z z (WL.gS z z z z (ug z z (wY (Y.pick (b := false) z z) z (WL.ren (v' := vB ((decide (a0.Kind = 3)) && (!decide (a0.Start = a0.Time)))) 73 z (congrArg vB (andF aC)) ?_)))))))
               exact nl (At.join () z (.cons z (.cons z (.cons z .nil))))
             ·rintro _ _ rfl
              refine (show WL _ _ _ _ _ [(1, pt c 0), (63, vB false), (73, vB ((decide (a0.Kind = 3)) && (!decide (a0.Start = a0.Time))))] _ from ?_)
              refine wY (Y.pick (b := false) z z) z (WL.ren (v' := vB (((decide (a0.Start < 0)) || (decide (4503599627370496 < a0.Time))) || ((decide (a0.Kind = 3)) && (!decide (a0.Start = a0.Time))))) 74 z (congrArg vB (orF aA)) ?_)
              exact nl (At.join () z (.cons z (.cons z .nil)))
           ·rintro _ _ rfl
            refine (show WL _ _ _ _ _ [(1, pt c 0), (74, vB (((decide (a0.Start < 0)) || (decide (4503599627370496 < a0.Time))) || ((decide (a0.Kind = 3)) && (!decide (a0.Start = a0.Time)))))] _ from ?_)
            refine wY (ym z) z ?_
            refine WL.cut 11 (σ := Unit) (fun _ w' => e = w') (fun _ => [(1, pt c 0), (86, vB ((((decide (a0.Start < 0)) || (decide (4503599627370496 < a0.Time))) || ((decide (a0.Kind = 3)) && (!decide (a0.Start = a0.Time)))) || ((!decide (a0.Kind = 3)) && (decide (a0.Time ≤ a0.Start)))))]) ?_ ?_
            ·refine WL.part 75 z (fun aD => ?_) (fun aD => ?_)
             ·refine WL.gS z z z z (WL.gS z z z z (WL.gS z z z z (WL.gS z z z z (WL.gS z z z z (WL.gS z z z z (WL.gS z z z z (WL.gS z z z z (WL.gS z z z z (WL.gS z z z z ?_)))))))))
              refine wY (Y.pick (b := true) z z) z (WL.ren (v' := vB ((((decide (a0.Start < 0)) || (decide (4503599627370496 < a0.Time))) || ((decide (a0.Kind = 3)) && (!decide (a0.Start = a0.Time)))) || ((!decide (a0.Kind = 3)) && (decide (a0.Time ≤ a0.Start))))) 86 z (congrArg vB (orT aD)) ?_)
              exact nl (At.join () z (.cons z (.cons z .nil)))
             ·refine ug z z (wY (yf fo40_2 z) z (ug z z (wY (yl ty3 z z (d.cell 2 _ z)) z (ug z z (wY (Y.neq_i z z) z (ug z z (wY (ym z) z ?_)))))))
              refine WL.cut 6 (σ := Unit) (fun _ w' => e = w') (fun _ => [(1, pt c 0), (75, vB false), (85, vB ((!decide (a0.Kind = 3)) && (decide (a0.Time ≤ a0.Start))))]) ?_ ?_
              ·refine WL.part 79 z (fun aE => ?_) (fun aE => ?_)
               ·refine ug z z (wY (yf fo40_5 z) z (ug z z (wY (yl ty3 z z (d.cell 5 _ z)) z (ug z z (wY (yf fo40_6 z) z (ug z z (wY (yl ty3 z z (d.cell 6 _ z)) z (ug z z (wY (Y.geq_i z z) z ?_)))))))))
                refine ug z z (wY (Y.pick (b := true) z z) z (WL.ren (v' := vB ((!decide (a0.Kind = 3)) && (decide (a0.Time ≤ a0.Start)))) 85 z (congrArg vB (andT aE)) ?_))
                exact nl (At.join () z (.cons z (.cons z (.cons z .nil))))
               ·refine WL.gS z z z z (WL.gS z z z z (WL.gS z z z z (WL.gS z z z z (WL.gS z z z z (ug z z (wY (Y.pick (b := false) z z) z (WL.ren (v' := vB ((!decide (a0.Kind = 3)) && (decide (a0.Time ≤ a0.Start)))) 85 z (congrArg vB (andF aE)) ?_)))))))
                exact nl (At.join () z (.cons z (.cons z (.cons z .nil))))
              ·rintro _ _ rfl
               refine (show WL _ _ _ _ _ [(1, pt c 0), (75, vB false), (85, vB ((!decide (a0.Kind = 3)) && (decide (a0.Time ≤ a0.Start))))] _ from ?_)
               refine wY (Y.pick (b := false) z z) z (WL.ren (v' := vB ((((decide (a0.Start < 0)) || (decide (4503599627370496 < a0.Time))) || ((decide (a0.Kind = 3)) && (!decide (a0.Start = a0.Time)))) || ((!decide (a0.Kind = 3)) && (decide (a0.Time ≤ a0.Start))))) 86 z (congrArg vB (orF aD)) ?_)
               exact nl (At.join () z (.cons z (.cons z .nil)))
            ·rintro _ _ rfl
             refine (show WL _ _ _ _ _ [(1, pt c 0), (86, vB ((((decide (a0.Start < 0)) || (decide (4503599627370496 < a0.Time))) || ((decide (a0.Kind = 3)) && (!decide (a0.Start = a0.Time)))) || ((!decide (a0.Kind = 3)) && (decide (a0.Time ≤ a0.Start)))))] _ from ?_)
             refine nl (th ?_)
             rcases cnd h with ⟨aF, h⟩ | ⟨aF, h⟩
             ·refine WC.condT' z aF (sq (rg (wY (ya z) z (nl (th (rt (At.thenR ?_)))))))
              obtain rfl := some1 h
              have bE : Stp [] (Lg.O0 A) w C e := (tr_ (su_ j z) (su_ l z))
              exact At.res (.inl z) z (.tmp z .nil) ⟨z, (se_ bE z z)⟩
             ·refine WC.condF' z aF (sk (th (sq (sq (rg (wY (yf fo40_2 z) z (wY (yl ty3 z z (d.cell 2 _ z)) z (wY (Y.neq_i z z) z (wY (ym z) z ?_)))))))))
              refine WL.cut 4 (σ := Unit) (fun _ w' => e = w') (fun _ => [(1, pt c 0), (94, vB ((!decide (a0.Kind = 1)) && (!decide (a0.Int_ = 0))))]) ?_ ?_
              ·refine WL.part 90 z (fun aG => ?_) (fun aG => ?_)
               ·refine ug z z (wY (yf fo40_7 z) z (ug z z (wY (yl ty3 z z (d.cell 7 _ z)) z (ug z z (wY (Y.neq_i z z) z (wY (Y.pick (b := true) z z) z (WL.ren (v' := vB ((!decide (a0.Kind = 1)) && (!decide (a0.Int_ = 0)))) 94 z (congrArg vB (andT aG)) ?_)))))))
                exact nl (At.join () z (.cons z (.cons z .nil)))
               ·refine WL.gS z z z z (WL.gS z z z z (WL.gS z z z z (wY (Y.pick (b := false) z z) z (WL.ren (v' := vB ((!decide (a0.Kind = 1)) && (!decide (a0.Int_ = 0)))) 94 z (congrArg vB (andF aG)) ?_))))
                exact nl (At.join () z (.cons z (.cons z .nil)))
              ·rintro _ _ rfl
               refine (show WL _ _ _ _ _ [(1, pt c 0), (94, vB ((!decide (a0.Kind = 1)) && (!decide (a0.Int_ = 0))))] _ from ?_)
               refine wY (ym z) z ?_
               refine WL.cut 9 (σ := Unit) (fun _ w' => e = w') (fun _ => [(1, pt c 0), (104, vB (((!decide (a0.Kind = 1)) && (!decide (a0.Int_ = 0))) || ((!decide (a0.Kind = 5)) && (!decide (a0.Im = 0)))))]) ?_ ?_
               ·refine WL.part 95 z (fun aH => ?_) (fun aH => ?_)
                ·refine WL.gS z z z z (WL.gS z z z z (WL.gS z z z z (WL.gS z z z z (WL.gS z z z z (WL.gS z z z z (WL.gS z z z z (WL.gS z z z z (wY (Y.pick (b := true) z z) z (WL.ren (v' := vB (((!decide (a0.Kind = 1)) && (!decide (a0.Int_ = 0))) || ((!decide (a0.Kind = 5)) && (!decide (a0.Im = 0))))) 104 z (congrArg vB (orT aH)) ?_)))))))))
                 exact nl (At.join () z (.cons z (.cons z .nil)))
                ·refine ug z z (wY (yf fo40_2 z) z (ug z z (wY (yl ty3 z z (d.cell 2 _ z)) z (ug z z (wY (Y.neq_i z z) z (ug z z (wY (ym z) z ?_)))))))
                 refine WL.cut 4 (σ := Unit) (fun _ w' => e = w') (fun _ => [(1, pt c 0), (95, vB false), (103, vB ((!decide (a0.Kind = 5)) && (!decide (a0.Im = 0))))]) ?_ ?_
                 ·refine WL.part 99 z (fun aI => ?_) (fun aI => ?_)
                  ·refine ug z z (wY (yf fo40_9 z) z (ug z z (wY (yl ty33 z z (d.cell 9 _ z)) z (ug z z (wY (Y.neq_u (b := 0) z z) z (ug z z (wY (Y.pick (b := true) z z) z (WL.ren (v' := vB ((!decide (a0.Kind = 5)) && (!decide (a0.Im = 0)))) 103 z (congrArg vB (andT aI)) ?_))))))))
                   exact nl (At.join () z (.cons z (.cons z (.cons z .nil))))
                  ·refine WL.gS z z z z (WL.gS z z z z (WL.gS z z z z (ug z z (wY (Y.pick (b := false) z z) z (WL.ren (v' := vB ((!decide (a0.Kind = 5)) && (!decide (a0.Im = 0)))) 103 z (congrArg vB (andF aI)) ?_)))))
                   exact nl (At.join () z (.cons z (.cons z (.cons z .nil))))
                 ·rintro _ _ rfl
                  refine (show WL _ _ _ _ _ [(1, pt c 0), (95, vB false), (103, vB ((!decide (a0.Kind = 5)) && (!decide (a0.Im = 0))))] _ from ?_)
                  refine wY (Y.pick (b := false) z z) z (WL.ren (v' := vB (((!decide (a0.Kind = 1)) && (!decide (a0.Int_ = 0))) || ((!decide (a0.Kind = 5)) && (!decide (a0.Im = 0))))) 104 z (congrArg vB (orF aH)) ?_)
                  exact nl (At.join () z (.cons z (.cons z .nil)))
               ·rintro _ _ rfl
                refine (show WL _ _ _ _ _ [(1, pt c 0), (104, vB (((!decide (a0.Kind = 1)) && (!decide (a0.Int_ = 0))) || ((!decide (a0.Kind = 5)) && (!decide (a0.Im = 0)))))] _ from ?_)
                refine wY (ym z) z ?_
                obtain ⟨b8, h, bG⟩ := bnd h
                refine WL.cut 10 (σ := (Bool × Own)) (fun x w' => x.1 = b8 ∧ Stp [] C e x.2 w') (fun x => [(1, pt c 0), (115, vB x.1)]) ?_ ?_
                ·rcases cnd h with ⟨aJ, h⟩ | ⟨aJ, h⟩
                 ·refine WL.ren 105 z (congrArg vB aJ) (WL.gS z z z z (WL.gS z z z z (WL.gS z z z z (WL.gS z z z z (WL.gS z z z z (WL.gS z z z z (WL.gS z z z z (WL.gS z z z z (WL.gS z z z z ?_)))))))))
                  refine wY (Y.pick (b := true) z z) z ?_
                  exact nl (At.join (σ := (Bool × Own)) (true, C) ⟨some1 h, (sr_ _ _ _)⟩ (.cons z (.cons z .nil)))
                 ·refine WL.ren 105 z (congrArg vB aJ) (ug z z (wY (yf fo40_2 z) z (ug z z (wY (yl ty3 z z (d.cell 2 _ z)) z (ug z z (wY (Y.neq_i z z) z (ug z z (wY (ym z) z ?_))))))))
                  obtain ⟨b9, h, bH⟩ := bnd h
                  refine WL.cut 5 (σ := (Bool × Own)) (fun x w' => x.1 = b9 ∧ Stp [] C e x.2 w') (fun x => [(1, pt c 0), (105, vB false), (114, vB x.1)]) ?_ ?_
                  ·rcases cnd h with ⟨aK, h⟩ | ⟨aK, h⟩
                   ·refine WL.ren 109 z (congrArg vB aK) (ug z z (wY (yf fo40_10 z) z (ug z z (wY (yL ty38 z z (d.cells 10 (hl a0.Hist (vl aa ab ac) (vl ad ae af)) z) z) z (ug z z ?_)))))
                    have bJ := (ai.i j z z).i l z z
                    have bL := (aj.i j z z).i l z z
                    obtain ⟨ca, bM, h⟩ := bnd h
                    refine WL.call (vals := [ag (hl a0.Hist (vl aa ab ac) (vl ad ae af))]) kok53 z z (c_ref12_none (A := fun _ => True) (a0 := a0.Hist) (Sl.all bJ) (Sl.all bL) bM) ?_
                    rintro cn co ⟨rfl, bO⟩
                    obtain ⟨cb, cc, cd, aX⟩ := adoptE C (fun k => 1) bO
                    refine ug z z (wY (Y.not z) z (ug z z (wY (Y.pick (b := true) z z) z ?_)))
                    exact nl (At.join (σ := (Bool × Own)) ((!ca), cb) ⟨some1 h, (su_ aX z)⟩ (.cons z (.cons z (.cons z .nil))))
                   ·refine WL.ren 109 z (congrArg vB aK) (WL.gS z z z z (WL.gS z z z z (WL.gS z z z z (WL.gS z z z z (ug z z (wY (Y.pick (b := false) z z) z ?_))))))
                    exact nl (At.join (σ := (Bool × Own)) (false, C) ⟨some1 h, (sr_ _ _ _)⟩ (.cons z (.cons z (.cons z .nil))))
                  ·rintro ⟨br, ce⟩ cq ⟨rfl, aQ⟩
                   replace h := bH
                   try dsimp only at h aQ
                   refine (show WL _ _ _ _ _ [(1, pt c 0), (105, vB false), (114, vB br)] _ from ?_)
                   refine wY (Y.pick (b := false) z z) z ?_
                   exact nl (At.join (σ := (Bool × Own)) (br, ce) ⟨some1 h, (su_ aQ z)⟩ (.cons z (.cons z .nil)))
                ·rintro ⟨cf, ah⟩ t ⟨rfl, m⟩
                 replace h := bG
                 try dsimp only at h m
                 refine (show WL _ _ _ _ _ [(1, pt c 0), (115, vB cf)] _ from ?_)
                 refine nl (th ?_)
                 rcases cnd h with ⟨aL, h⟩ | ⟨aL, h⟩
                 ·refine WC.condT' z aL (sq (rg (wY (ya z) z (nl (th (rt (At.thenR ?_)))))))
                  obtain rfl := some1 h
                  have bP : Stp [] (Lg.O0 A) w ah t := (tr_ (su_ j z) (tr_ (su_ l z) (su_ m z)))
                  exact At.res (.inl z) z (.tmp z .nil) ⟨z, (se_ bP z z)⟩
                 ·refine WC.condF' z aL (sk (th (sq (sq (rg (wY (yf fo40_2 z) z ?_))))))
                  have r := d.st m z
                  refine wY (yl ty3 z z (r.cell 2 _ z)) z (wY (Y.eql_i z z) z (wY (ym z) z ?_))
                  refine WL.cut 4 (σ := Unit) (fun _ w' => t = w') (fun _ => [(1, pt c 0), (123, vB ((decide (a0.Kind = 1)) || (decide (a0.Kind = 4))))]) ?_ ?_
                  ·refine WL.part 119 z (fun aM => ?_) (fun aM => ?_)
                   ·refine WL.gS z z z z (WL.gS z z z z (WL.gS z z z z (wY (Y.pick (b := true) z z) z (WL.ren (v' := vB ((decide (a0.Kind = 1)) || (decide (a0.Kind = 4)))) 123 z (congrArg vB (orT aM)) ?_))))
                    exact nl (At.join () z (.cons z (.cons z .nil)))
                   ·refine ug z z (wY (yf fo40_2 z) z (ug z z (wY (yl ty3 z z (r.cell 2 _ z)) z (ug z z (wY (Y.eql_i z z) z (wY (Y.pick (b := false) z z) z (WL.ren (v' := vB ((decide (a0.Kind = 1)) || (decide (a0.Kind = 4)))) 123 z (congrArg vB (orF aM)) ?_)))))))
                    exact nl (At.join () z (.cons z (.cons z .nil)))
                  ·rintro _ _ rfl
                   refine (show WL _ _ _ _ _ [(1, pt c 0), (123, vB ((decide (a0.Kind = 1)) || (decide (a0.Kind = 4))))] _ from ?_)
                   refine wY (ym z) z ?_
                   refine WL.cut 4 (σ := Unit) (fun _ w' => t = w') (fun _ => [(1, pt c 0), (128, vB (((decide (a0.Kind = 1)) || (decide (a0.Kind = 4))) && (!decide (a0.Re = 0))))]) ?_ ?_
                   ·refine WL.part 124 z (fun aN => ?_) (fun aN => ?_)
                    ·refine ug z z (wY (yf fo40_8 z) z (ug z z (wY (yl ty33 z z (r.cell 8 _ z)) z (ug z z (wY (Y.neq_u (b := 0) z z) z (wY (Y.pick (b := true) z z) z (WL.ren (v' := vB (((decide (a0.Kind = 1)) || (decide (a0.Kind = 4))) && (!decide (a0.Re = 0)))) 128 z (congrArg vB (andT aN)) ?_)))))))
                     exact nl (At.join () z (.cons z (.cons z .nil)))
                    ·refine WL.gS z z z z (WL.gS z z z z (WL.gS z z z z (wY (Y.pick (b := false) z z) z (WL.ren (v' := vB (((decide (a0.Kind = 1)) || (decide (a0.Kind = 4))) && (!decide (a0.Re = 0)))) 128 z (congrArg vB (andF aN)) ?_))))
                     exact nl (At.join () z (.cons z (.cons z .nil)))
                   ·rintro _ _ rfl
                    refine (show WL _ _ _ _ _ [(1, pt c 0), (128, vB (((decide (a0.Kind = 1)) || (decide (a0.Kind = 4))) && (!decide (a0.Re = 0))))] _ from ?_)
                    refine wY (ym z) z ?_
                    refine WL.cut 4 (σ := Unit) (fun _ w' => t = w') (fun _ => [(1, pt c 0), (133, vB ((((decide (a0.Kind = 1)) || (decide (a0.Kind = 4))) && (!decide (a0.Re = 0))) || (decide (a0.Flags < 0))))]) ?_ ?_
                    ·refine WL.part 129 z (fun aO => ?_) (fun aO => ?_)
                     ·refine WL.gS z z z z (WL.gS z z z z (WL.gS z z z z (wY (Y.pick (b := true) z z) z (WL.ren (v' := vB ((((decide (a0.Kind = 1)) || (decide (a0.Kind = 4))) && (!decide (a0.Re = 0))) || (decide (a0.Flags < 0)))) 133 z (congrArg vB (orT aO)) ?_))))
                      exact nl (At.join () z (.cons z (.cons z .nil)))
                     ·refine ug z z (wY (yf fo40_11 z) z (ug z z (wY (yl ty3 z z (r.cell 16 _ z)) z (ug z z (wY (Y.lss_i z z) z (wY (Y.pick (b := false) z z) z (WL.ren (v' := vB ((((decide (a0.Kind = 1)) || (decide (a0.Kind = 4))) && (!decide (a0.Re = 0))) || (decide (a0.Flags < 0)))) 133 z (congrArg vB (orF aO)) ?_)))))))
                      exact nl (At.join () z (.cons z (.cons z .nil)))
                    ·rintro _ _ rfl
                     refine (show WL _ _ _ _ _ [(1, pt c 0), (133, vB ((((decide (a0.Kind = 1)) || (decide (a0.Kind = 4))) && (!decide (a0.Re = 0))) || (decide (a0.Flags < 0))))] _ from ?_)
                     refine wY (ym z) z ?_
                     refine WL.cut 4 (σ := Unit) (fun _ w' => t = w') (fun _ => [(1, pt c 0), (138, vB (((((decide (a0.Kind = 1)) || (decide (a0.Kind = 4))) && (!decide (a0.Re = 0))) || (decide (a0.Flags < 0))) || (decide (31 < a0.Flags))))]) ?_ ?_
                     ·refine WL.part 134 z (fun G => ?_) (fun G => ?_)
                      ·refine WL.gS z z z z (WL.gS z z z z (WL.gS z z z z (wY (Y.pick (b := true) z z) z (WL.ren (v' := vB (((((decide (a0.Kind = 1)) || (decide (a0.Kind = 4))) && (!decide (a0.Re = 0))) || (decide (a0.Flags < 0))) || (decide (31 < a0.Flags)))) 138 z (congrArg vB (orT G)) ?_))))
                       exact nl (At.join () z (.cons z (.cons z .nil)))
                      ·refine ug z z (wY (yf fo40_11 z) z (ug z z (wY (yl ty3 z z (r.cell 16 _ z)) z (ug z z (wY (Y.gtr_i z z) z (wY (Y.pick (b := false) z z) z (WL.ren (v' := vB (((((decide (a0.Kind = 1)) || (decide (a0.Kind = 4))) && (!decide (a0.Re = 0))) || (decide (a0.Flags < 0))) || (decide (31 < a0.Flags)))) 138 z (congrArg vB (orF G)) ?_)))))))
                       exact nl (At.join () z (.cons z (.cons z .nil)))
                     ·rintro _ _ rfl
                      refine (show WL _ _ _ _ _ [(1, pt c 0), (138, vB (((((decide (a0.Kind = 1)) || (decide (a0.Kind = 4))) && (!decide (a0.Re = 0))) || (decide (a0.Flags < 0))) || (decide (31 < a0.Flags))))] _ from ?_)
                      refine nl (th ?_)
                      rcases cnd h with ⟨H, h⟩ | ⟨H, h⟩
                      ·refine WC.condT' z H (sq (rg (wY (ya z) z (nl (th (rt (At.thenR ?_)))))))
                       obtain rfl := some1 h
                       have aY : Stp [] (Lg.O0 A) w ah t := (tr_ (su_ j z) (tr_ (su_ l z) (su_ m z)))
                       exact At.res (.inl z) z (.tmp z .nil) ⟨z, (se_ aY z z)⟩
                      ·refine WC.condF' z H (sk (th (sq (sq (rg (wY (yf fo40_4 z) z (wY (yl ty4 z z (r.cell 4 _ z)) z (wY (ym z) z ?_))))))))
                       refine WL.cut 4 (σ := Unit) (fun _ w' => t = w') (fun _ => [(1, pt c 0), (145, vB (a0.Mono && (decide (a0.Kind = 2))))]) ?_ ?_
                       ·refine WL.part 141 z (fun I => ?_) (fun I => ?_)
                        ·refine ug z z (wY (yf fo40_2 z) z (ug z z (wY (yl ty3 z z (r.cell 2 _ z)) z (ug z z (wY (Y.eql_i z z) z (wY (Y.pick (b := true) z z) z (WL.ren (v' := vB (a0.Mono && (decide (a0.Kind = 2)))) 145 z (congrArg vB (andT I)) ?_)))))))
                         exact nl (At.join () z (.cons z (.cons z .nil)))
                        ·refine WL.gS z z z z (WL.gS z z z z (WL.gS z z z z (wY (Y.pick (b := false) z z) z (WL.ren (v' := vB (a0.Mono && (decide (a0.Kind = 2)))) 145 z (congrArg vB (andF I)) ?_))))
                         exact nl (At.join () z (.cons z (.cons z .nil)))
                       ·rintro _ _ rfl
                        refine (show WL _ _ _ _ _ [(1, pt c 0), (145, vB (a0.Mono && (decide (a0.Kind = 2))))] _ from ?_)
                        refine wY (ym z) z ?_
                        obtain ⟨bQ, h, aZ⟩ := bnd h
                        refine WL.cut 5 (σ := (Bool × Own)) (fun x w' => x.1 = bQ ∧ Stp [] ah t x.2 w') (fun x => [(1, pt c 0), (151, vB x.1)]) ?_ ?_
                        ·rcases cnd h with ⟨J, h⟩ | ⟨J, h⟩
                         ·refine WL.ren 146 z (congrArg vB J) (ug z z (wY (yf fo40_8 z) z (ug z z (wY (yl ty33 z z (r.cell 8 _ z)) z (ug z z ?_)))))
                          obtain ⟨bR, a1, h⟩ := bnd h
                          refine WL.call (vals := [vu a0.Re]) kok54 z z (c_ref05_Finite a1) ?_
                          rintro cg ch ⟨rfl, a2⟩
                          obtain ⟨bS, bZ, b0, aT⟩ := adoptE ah (fun k => 1) a2
                          refine ug z z (wY (Y.not z) z (wY (Y.pick (b := true) z z) z ?_))
                          exact nl (At.join (σ := (Bool × Own)) ((!bR), bS) ⟨some1 h, (su_ aT z)⟩ (.cons z (.cons z .nil)))
                         ·refine WL.ren 146 z (congrArg vB J) (WL.gS z z z z (WL.gS z z z z (WL.gS z z z z (WL.gS z z z z (wY (Y.pick (b := false) z z) z ?_)))))
                          exact nl (At.join (σ := (Bool × Own)) (false, ah) ⟨some1 h, (sr_ _ _ _)⟩ (.cons z (.cons z .nil)))
                        ·rintro ⟨bT, K⟩ L ⟨rfl, o⟩
                         replace h := aZ
                         try dsimp only at h o
                         refine (show WL _ _ _ _ _ [(1, pt c 0), (151, vB bT)] _ from ?_)
                         refine nl (th ?_)
                         rcases cnd h with ⟨M, h⟩ | ⟨M, h⟩
                         ·refine WC.condT' z M (sq (rg (wY (ya z) z (nl (th (rt (At.thenR ?_)))))))
                          obtain rfl := some1 h
                          have a3 : Stp [] (Lg.O0 A) w K L := (tr_ (su_ j z) (tr_ (su_ l z) (tr_ (su_ m z) (su_ o z))))
                          exact At.res (.inl z) z (.tmp z .nil) ⟨z, (se_ a3 z z)⟩
                         ·refine WC.condF' z M (sk (th (sq (sq (rg (wY (yf fo40_4 z) z ?_))))))
                          have D := r.st o z
                          refine wY (yl ty4 z z (D.cell 4 _ z)) z (wY (ym z) z ?_)
                          refine WL.cut 4 (σ := Unit) (fun _ w' => L = w') (fun _ => [(1, pt c 0), (158, vB (a0.Mono && (decide (a0.Kind = 2))))]) ?_ ?_
                          ·refine WL.part 154 z (fun P => ?_) (fun P => ?_)
                           ·refine ug z z (wY (yf fo40_2 z) z (ug z z (wY (yl ty3 z z (D.cell 2 _ z)) z (ug z z (wY (Y.eql_i z z) z (wY (Y.pick (b := true) z z) z (WL.ren (v' := vB (a0.Mono && (decide (a0.Kind = 2)))) 158 z (congrArg vB (andT P)) ?_)))))))
                            exact nl (At.join () z (.cons z (.cons z .nil)))
                           ·refine WL.gS z z z z (WL.gS z z z z (WL.gS z z z z (wY (Y.pick (b := false) z z) z (WL.ren (v' := vB (a0.Mono && (decide (a0.Kind = 2)))) 158 z (congrArg vB (andF P)) ?_))))
                            exact nl (At.join () z (.cons z (.cons z .nil)))
                          ·rintro _ _ rfl
                           refine (show WL _ _ _ _ _ [(1, pt c 0), (158, vB (a0.Mono && (decide (a0.Kind = 2))))] _ from ?_)
                           refine wY (ym z) z ?_
                           obtain ⟨bU, h, a4⟩ := bnd h
                           refine WL.cut 4 (σ := (Bool × Own)) (fun x w' => x.1 = bU ∧ Stp [] K L x.2 w') (fun x => [(1, pt c 0), (163, vB x.1)]) ?_ ?_
                           ·rcases cnd h with ⟨Q, h⟩ | ⟨Q, h⟩
                            ·refine WL.ren 159 z (congrArg vB Q) (ug z z (wY (yf fo40_8 z) z (ug z z (wY (yl ty33 z z (D.cell 8 _ z)) z (ug z z ?_)))))
                             obtain ⟨bW, a5, h⟩ := bnd h
                             refine WL.call (vals := [vu a0.Re, vu 0]) kok55 z z (c_ref05_Less a5) ?_
                             rintro ci cj ⟨rfl, a6⟩
                             obtain ⟨bX, b1, b2, aU⟩ := adoptE K (fun k => 1) a6
                             refine wY (Y.pick (b := true) z z) z ?_
                             exact nl (At.join (σ := (Bool × Own)) (bW, bX) ⟨some1 h, (su_ aU z)⟩ (.cons z (.cons z .nil)))
                            ·refine WL.ren 159 z (congrArg vB Q) (WL.gS z z z z (WL.gS z z z z (WL.gS z z z z (wY (Y.pick (b := false) z z) z ?_))))
                             exact nl (At.join (σ := (Bool × Own)) (false, K) ⟨some1 h, (sr_ _ _ _)⟩ (.cons z (.cons z .nil)))
                           ·rintro ⟨F, aP⟩ E ⟨rfl, p⟩
                            replace h := a4
                            try dsimp only at h p
                            refine (show WL _ _ _ _ _ [(1, pt c 0), (163, vB F)] _ from ?_)
                            refine wY (ym z) z ?_
                            refine WL.cut 13 (σ := Unit) (fun _ w' => E = w') (fun _ => [(1, pt c 0), (177, vB (F || ((a0.Mono && (decide (a0.Kind = 1))) && (decide (a0.Int_ < 0)))))]) ?_ ?_
                            ·refine WL.part 164 z (fun S => ?_) (fun S => ?_)
                             ·refine WL.gS z z z z (WL.gS z z z z (WL.gS z z z z (WL.gS z z z z (WL.gS z z z z (WL.gS z z z z (WL.gS z z z z (WL.gS z z z z (WL.gS z z z z (WL.gS z z z z ?_)))))))))
                              refine WL.gS z z z z (WL.gS z z z z (wY (Y.pick (b := true) z z) z (WL.ren (v' := vB (F || ((a0.Mono && (decide (a0.Kind = 1))) && (decide (a0.Int_ < 0))))) 177 z (congrArg vB (orT S)) ?_)))
                              exact nl (At.join () z (.cons z (.cons z .nil)))
                             ·refine ug z z (wY (yf fo40_4 z) z (ug z z ?_))
                              have T := D.st p z
                              refine wY (yl ty4 z z (T.cell 4 _ z)) z (ug z z (wY (ym z) z ?_))
                              refine WL.cut 4 (σ := Unit) (fun _ w' => E = w') (fun _ => [(1, pt c 0), (164, vB false), (171, vB (a0.Mono && (decide (a0.Kind = 1))))]) ?_ ?_
                              ·refine WL.part 167 z (fun U => ?_) (fun U => ?_)
                               ·refine ug z z (wY (yf fo40_2 z) z (ug z z (wY (yl ty3 z z (T.cell 2 _ z)) z (ug z z (wY (Y.eql_i z z) z (ug z z (wY (Y.pick (b := true) z z) z (WL.ren (v' := vB (a0.Mono && (decide (a0.Kind = 1)))) 171 z (congrArg vB (andT U)) ?_))))))))
                                exact nl (At.join () z (.cons z (.cons z (.cons z .nil))))
                               ·refine WL.gS z z z z (WL.gS z z z z (WL.gS z z z z (ug z z (wY (Y.pick (b := false) z z) z (WL.ren (v' := vB (a0.Mono && (decide (a0.Kind = 1)))) 171 z (congrArg vB (andF U)) ?_)))))
                                exact nl (At.join () z (.cons z (.cons z (.cons z .nil))))
                              ·rintro _ _ rfl
                               refine (show WL _ _ _ _ _ [(1, pt c 0), (164, vB false), (171, vB (a0.Mono && (decide (a0.Kind = 1))))] _ from ?_)
                               refine ug z z (wY (ym z) z ?_)
                               refine WL.cut 4 (σ := Unit) (fun _ w' => E = w') (fun _ => [(1, pt c 0), (164, vB false), (176, vB ((a0.Mono && (decide (a0.Kind = 1))) && (decide (a0.Int_ < 0))))]) ?_ ?_
                               ·refine WL.part 172 z (fun W => ?_) (fun W => ?_)
                                ·refine ug z z (wY (yf fo40_7 z) z (ug z z (wY (yl ty3 z z (T.cell 7 _ z)) z (ug z z (wY (Y.lss_i z z) z (ug z z (wY (Y.pick (b := true) z z) z (WL.ren (v' := vB ((a0.Mono && (decide (a0.Kind = 1))) && (decide (a0.Int_ < 0)))) 176 z (congrArg vB (andT W)) ?_))))))))
                                 exact nl (At.join () z (.cons z (.cons z (.cons z .nil))))
                                ·refine WL.gS z z z z (WL.gS z z z z (WL.gS z z z z (ug z z (wY (Y.pick (b := false) z z) z (WL.ren (v' := vB ((a0.Mono && (decide (a0.Kind = 1))) && (decide (a0.Int_ < 0)))) 176 z (congrArg vB (andF W)) ?_)))))
                                 exact nl (At.join () z (.cons z (.cons z (.cons z .nil))))
                               ·rintro _ _ rfl
                                refine (show WL _ _ _ _ _ [(1, pt c 0), (164, vB false), (176, vB ((a0.Mono && (decide (a0.Kind = 1))) && (decide (a0.Int_ < 0))))] _ from ?_)
                                refine wY (Y.pick (b := false) z z) z (WL.ren (v' := vB (F || ((a0.Mono && (decide (a0.Kind = 1))) && (decide (a0.Int_ < 0))))) 177 z (congrArg vB (orF S)) ?_)
                                exact nl (At.join () z (.cons z (.cons z .nil)))
                            ·rintro _ _ rfl
                             refine (show WL _ _ _ _ _ [(1, pt c 0), (177, vB (F || ((a0.Mono && (decide (a0.Kind = 1))) && (decide (a0.Int_ < 0)))))] _ from ?_)
                             refine nl (th ?_)
                             rcases cnd h with ⟨X, h⟩ | ⟨X, h⟩
                             ·refine WC.condT' z X (sq (rg (wY (ya z) z (nl (th (rt (At.thenR ?_)))))))
                              obtain rfl := some1 h
                              have a7 : Stp [] (Lg.O0 A) w aP E := (tr_ (su_ j z) (tr_ (su_ l z) (tr_ (su_ m z) (tr_ (su_ o z) (su_ p z)))))
                              exact At.res (.inl z) z (.tmp z .nil) ⟨z, (se_ a7 z z)⟩
                             ·refine WC.condF' z X (sk (th (sq (sq (rg (wY (yf fo40_2 z) z ?_))))))
                              have aR := D.st p z
                              refine wY (yl ty3 z z (aR.cell 2 _ z)) z (wY (Y.eql_i z z) z (nl (th ?_)))
                              rcases cnd h with ⟨Z, h⟩ | ⟨Z, h⟩
                              ·refine WC.condT' z Z (sq (rg (wY (yf fo40_10 z) z (wY (yL ty38 z z (aR.cells 10 (hl a0.Hist (vl aa ab ac) (vl ad ae af)) z) z) z ?_))))
                               have bc := ((((ai.i j z z).i l z z).i m z z).i o z z).i p z z
                               have bi := ((((aj.i j z z).i l z z).i m z z).i o z z).i p z z
                               obtain ⟨cr, bj, h⟩ := bnd h
                               refine WL.call (vals := [ag (hl a0.Hist (vl aa ab ac) (vl ad ae af))]) kok56 z z (c_ref08_Check (A := fun _ => True) (a0 := a0.Hist) (Sl.all bc) (Sl.all bi) bj) ?_
                               rintro ck bk ⟨rfl, bl⟩
                               obtain ⟨bY, b3, b4, aW⟩ := adoptE aP (fun k => 1) bl
                               refine wY (ya z) z (nl (th (rt (At.thenR ?_))))
                               obtain rfl := some1 h
                               have bm : Stp [] (Lg.O0 A) w bY bk := (tr_ (su_ j z) (tr_ (su_ l z) (tr_ (su_ m z) (tr_ (su_ o z) (tr_ (su_ p z) (su_ aW z))))))
                               exact At.res (.inl z) z (.tmp z .nil) ⟨z, (se_ bm z z)⟩
                              ·refine WC.condF' z Z (sk (th (sq (rg (wY (ya z) z (nl (th (rt ?_))))))))
                               obtain rfl := some1 h
                               have bn : Stp [] (Lg.O0 A) w aP E := (tr_ (su_ j z) (tr_ (su_ l z) (tr_ (su_ m z) (tr_ (su_ o z) (su_ p z)))))
                               exact At.res (.inl z) z (.tmp z .nil) ⟨z, (se_ bn z z)⟩
theorem cN_ref30_Var (kf0 : Nat) : ∀ {a0 : UInt64} {w : World} {r0 : List UInt8} (h : ref30_VarN kf0 a0 = some r0), Rets Tryz.prog 85 [vu a0] w (fun v w' => ∃ (u0 : Value), v = u0 ∧ Ext w w' ∧ RowF Rep.b 5 w w' u0 r0) := by
  induction kf0 with
  | zero => intro a0 w r0 h; cases h
  | succ kf ih =>
  intro a0 w r0 h
  obtain ⟨rec_, hrec⟩ : ∃ q, q = ref30_VarN kf := ⟨_, rfl⟩
  rw [← hrec] at ih
  have h : ref30_VarB (ref30_VarN kf) a0 = some r0 := h
  rw [← hrec] at h
  unfold ref30_VarB at h
  refine Rets.enter Tryz.func85 rfl rfl ?_
  refine (show WC _ _ _ _ [(0, vu a0)] _ from ?_)
  refine sq (rg (wY (ya rfl) rfl (nl (th (sq (sq (rg (wY (ym rfl) rfl (wY (Y.lss_u (b := 128) rfl rfl) rfl ?_)))))))))
  refine nl (th ?_)
  rcases cnd h with ⟨hc11, h⟩ | ⟨hc11, h⟩
  ·refine WC.condT' rfl hc11 (sq (rg (wY (ym rfl) rfl (wY (Y.conv_ub ty33.u ty5.u rfl) rfl (WL.buildSlice (O := (Lg.O0 (fun _ => False))) (R := Rep.b) (vals := [(0, vb a0.toUInt8)]) 11 [vb a0.toUInt8] (xs := [a0.toUInt8]) (by decide) ty51 ty5 (by decide) (by decide) (fe_ rfl) (by kernel_rfl) rfl ⟨[vb a0.toUInt8], [], rfl, rfl, rfl⟩ rfl ?_)))))
   intro v12 O14 wd15 hst16 ho13
   refine wY (ya rfl) rfl (nl (th (rt (At.thenR ?_))))
   obtain rfl := some1 h
   have hs17 : Stp [] (Lg.O0 (fun _ => False)) w O14 wd15 := (su_ hst16 rfl)
   exact At.res (.inl rfl) rfl (.tmp rfl .nil) ⟨v12, rfl, (se_ hs17 rfl rfl), (OwnSl.outF ho13 hs17 low0 rfl)⟩
  ·refine WC.condF' rfl hc11 (sk (th (sq (rg (wY (ym rfl) rfl (wY (Y.rem_u (b := 128) (by decide) rfl rfl) rfl (wY (Y.add_u (a := 128) rfl rfl) rfl (wY (Y.conv_ub ty33.u ty5.u rfl) rfl (WL.buildSlice (O := (Lg.O0 (fun _ => False))) (R := Rep.b) (vals := [(0, vb (((128 : UInt64) + (a0 % 128)).toUInt8))]) 12 [vb (((128 : UInt64) + (a0 % 128)).toUInt8)] (xs := [((128 : UInt64) + (a0 % 128)).toUInt8]) (by decide) ty51 ty5 (by decide) (by decide) (fe_ rfl) (by kernel_rfl) rfl ⟨[vb (((128 : UInt64) + (a0 % 128)).toUInt8)], [], rfl, rfl, rfl⟩ rfl ?_)))))))))
   intro v18 O20 wd21 hst22 ho19
   refine wY (ym rfl) rfl (wY (Y.quo_u (b := 128) (by decide) rfl rfl) rfl ?_)
   obtain ⟨r23, hp24, h⟩ := bnd h
   refine WL.call (vals := [vu (a0 / 128)]) kok85 rfl rfl (ih hp24) ?_
   rintro vr29 wd28 ⟨_, rfl, hm27, f26⟩
   obtain ⟨O30, hold31, hnew32, hst33⟩ := adoptE O20 (fun k => if ob vr29 = some k then 13 else 1) hm27
   have hf34 : OwnSl 13 Rep.b 5 O30 wd28 vr29 r23 := RowF.adopt 13 Flat.b f26 hnew32 (fun k hk => if_pos hk)
   obtain ⟨xs35, hxs35, h⟩ := bnd h
   have hf36 := ho19.st hst33 rfl rfl rfl
   refine WL.append (by decide) ty51 ty5 rfl (by decide) rfl rfl hf36 hf34.src hxs35 rfl ?_
   intro v40 O37 wd38 hst39 ho41
   refine wY (ya rfl) rfl (nl (th (rt ?_)))
   obtain rfl := some1 h
   have hs42 : Stp [12] (Lg.O0 (fun _ => False)) w O37 wd38 := (tr_ (su_ hst22 rfl) (tr_ (su_ hst33 rfl) (su_ hst39 rfl)))
   exact At.res (.inl rfl) rfl (.tmp rfl .nil) ⟨v40, rfl, (se_ hs42 rfl rfl), (OwnSl.outF ho41 hs42 low0 rfl)⟩
theorem c_ref30_Var {a0 : UInt64} {w : World} {r0 : List UInt8} (h : ref30_Var a0 = some r0) : Rets Tryz.prog 85 [vu a0] w (fun v w' => ∃ (u0 : Value), v = u0 ∧ Ext w w' ∧ RowF Rep.b 5 w w' u0 r0) := by
  obtain ⟨k, hk⟩ := fuel_some h
  exact cN_ref30_Var k hk
theorem c_ref30_fix {a0 : UInt64} {w : World} {r0 : List UInt8} (h : ref30_fix a0 = some r0) : Rets Tryz.prog 86 [vu a0] w (fun v w' => v = vs r0 ∧ Ext w w') := by
 unfold ref30_fix at h
 refine Rets.enter Tryz.func86 z z ?_
 refine (show WC _ _ _ _ [(0, vu a0)] _ from ?_)
 refine sq (rg (wY (ya (v := vs []) z) z (nl (th (sq (rg (wY (ya (v := vs []) z) z (nl (th ?_)))))))))
 refine sq (sq (rg (wY (ya z) z (nl (th (WC.block ?_))))))
 obtain ⟨o, h, C⟩ := flow1 h
 obtain ⟨p, h⟩ := loop_some h
 refine WC.joinB 0 (σ := (List UInt8 × Own)) (fun x w' => o = .go x.1 ∧ Stp [] (Lg.O0 (fun _ => False)) w x.2 w') (fun x => [(3, vs x.1)]) ?_ ?_
 ·refine WC.loop (σ := (UInt64 × List UInt8 × Int × Own)) (fun x k w' => loopN k (ref30_fix_lp1) (x.1, x.2.1, x.2.2.1) = some o ∧ Stp [] (Lg.O0 (fun _ => False)) w x.2.2.2 w') (fun x => [(0, vu x.1), (3, vs x.2.1), (4, vi x.2.2.1)]) (a0, [], 0, (Lg.O0 (fun _ => False))) p (.cons z (.cons z (.cons z .nil))) ⟨h, (sr_ _ _ _)⟩ ?_
  rintro ⟨d, r, J, t⟩ p U ⟨h, c⟩
  obtain ⟨K, X, rfl, h, l⟩ := rnd1 h
  unfold ref30_fix_lp1 at h
  try dsimp only at h c
  refine (show WC _ _ _ _ [(0, vu d), (3, vs r), (4, vi J)] _ from ?_)
  refine sq (sq (rg (wY (ym z) z (wY (Y.lss_i z z) z (nl (th ?_))))))
  rcases cnd h with ⟨e, h⟩ | ⟨e, h⟩
  ·refine WC.condT' z e (sk (th (sq (WC.block (sq (rg (wY (ym z) z (wY (ym z) z (wY (Y.rem_u (b := 256) (by decide) z z) z ?_)))))))))
   refine wY (Y.conv_ub ty33.u ty5.u z) z (WL.buildSlice (O := t) (R := Rep.b) (vals := [(0, vb ((d % 256).toUInt8))]) 11 [vb ((d % 256).toUInt8)] (xs := [(d % 256).toUInt8]) (by decide) ty51 ty5 (by decide) (by decide) (fe_ z) (by kernel_rfl) z ⟨[vb ((d % 256).toUInt8)], [], z, z, z⟩ z ?_)
   intro Z L W m D
   refine wY (Y.b2s ty51 ty5 ty9 z D.src.sl) z ?_
   obtain ⟨M, E, h⟩ := bnd h
   refine wY (Y.add_s E z z) z (wY (ya z) z (nl (th (rg (wY (ym z) z (wY (Y.quo_u (b := 256) (by decide) z z) z ?_))))))
   obtain ⟨P, F, h⟩ := lt1 h
   refine WL.yE (ya z) (congrArg vu F.symm) z (nl (At.inBlock (th (rg (wY (ym z) z (wY (Y.add_i z z) z ?_))))))
   obtain ⟨Q, G, h⟩ := lt1 h
   refine WL.yE (ya z) (congrArg vi G.symm) z (nl ?_)
   exact At.round (P, M, Q, L) K (Nat.lt_succ_self _) ⟨next1 h l, (tr_ (su_ c z) (su_ m z))⟩ (.cons z (.cons z (.cons z .nil)))
  ·refine WC.condF' z e (WC.exit (At.thenX (At.loopX ?_)))
   exact At.hitB (σ := (List UInt8 × Own)) (r, t) ⟨brk1 h l, (su_ c z)⟩ (.cons z .nil)
 ·rintro ⟨S, T⟩ H ⟨rfl, j⟩
  replace h := flowK_go C
  try dsimp only at h j
  refine (show At _ _ _ [(3, vs S)] _ from ?_)
  refine At.inBlockHit (th (sq (rg (wY (ym z) z (wY (ya z) z (nl (th (rt ?_))))))))
  obtain rfl := some1 h
  have I : Stp [] (Lg.O0 (fun _ => False)) w T H := (su_ j z)
  exact At.res (.inl z) z (.tmp z .nil) ⟨z, (se_ I z z)⟩
theorem c_ref30_Encode {A : Nat → Prop} {a0 : List api_Fld} {v0 : Value} {w : World} (hs0 : Sl rep_api_Fld w A v0 a0) {r0 : List UInt8} {r1 : Int} (h : ref30_Encode a0 = some (r0, r1)) : Rets Tryz.prog 47 [v0] w (fun v w' => ∃ (u0 : Value), v = tp [u0, vi r1] ∧ Ext w w' ∧ Sl Rep.b w' (fun k => w.heap.size ≤ k) u0 r0) := by
 unfold ref30_Encode at h
 refine Rets.enter Tryz.func47 z z ?_
 have bz : Sl rep_api_Fld w (imm (Lg.O0 A)) v0 a0 := (Sl.start hs0)
 refine (show WC _ _ _ _ [(0, v0)] _ from ?_)
 refine sq (rg (wY (ya z) z (wY (ya z) z (nl (th (sq (rg (wY (ya (v := vs []) z) z (nl ?_)))))))))
 refine th (sq (sq (rg (wY (ya z) z (nl (th (WC.block ?_)))))))
 obtain ⟨bq, h, H⟩ := flow1 h
 obtain ⟨br, h⟩ := loop_some h
 refine WC.joinB 0 (σ := (List UInt8 × Own)) (fun x w' => bq = .go x.1 ∧ Stp [11] (Lg.O0 A) w x.2 w') (fun x => [(4, vs x.1)]) ?_ ?_
 ·refine WC.loop (σ := (List UInt8 × Int × Own)) (fun x k w' => loopN k (ref30_Encode_lp1 a0) (x.1, x.2.1) = some bq ∧ Stp [11] (Lg.O0 A) w x.2.2 w') (fun x => [(0, v0), (4, vs x.1), (5, vi x.2.1)]) ([], 0, (Lg.O0 A)) br (.cons z (.cons z (.cons z .nil))) ⟨h, (sr_ _ _ _)⟩ ?_
  rintro ⟨t, e, ap⟩ br bA ⟨h, o⟩
  obtain ⟨cc, cN, rfl, h, F⟩ := rnd1 h
  unfold ref30_Encode_lp1 at h
  try dsimp only at h o
  refine (show WC _ _ _ _ [(0, v0), (4, vs t), (5, vi e)] _ from ?_)
  refine sq (sq (rg (wY (ym z) z (wY (ym z) z ?_))))
  have aq := bz.i o z z
  refine wY (Y.len ty70 z aq) z (wY (Y.lss_i z z) z (nl (th ?_)))
  rcases cnd h with ⟨Q, h⟩ | ⟨Q, h⟩
  ·refine WC.condT' z Q (sk (th (sq ?_)))
   obtain ⟨cd, h, I⟩ := flow1 h
   refine WC.join (σ := (List UInt8 × Own)) (fun x w' => cd = .go x.1 ∧ Stp [11] ap bA x.2 w') (fun x => [(0, v0), (4, vs x.1), (5, vi e)]) ?_ ?_
   ·refine WC.block (sq (rg (wY (ym z) z (wY (ym z) z ?_))))
    obtain ⟨c, bB, h⟩ := bnd h
    obtain ⟨cO, cq, cr, cC, bC, bD, bE, S, aL, bG⟩ := Sl.at2 aq bB
    obtain ⟨_, _, rfl, rfl, ⟨_, _, rfl, rfl, ⟨_, _, rfl, rfl, ⟨ce, rfl, bH⟩⟩⟩⟩ := aL
    replace S : CellsAt _ _ _ [vi c.Num, vi c.Type_, vu c.V, ce] := S
    have aM := CAt.imm S bG
    refine wY (Y.indexAddr ty70 ty72 z bC z bD bE) z (wY (yL ty72 z z aM.at_ z) z (WL.alloc (O := ap) 11 [vi 0, vi 0, vu 0, sn] ty72 z z ?_))
    intro j ae cD E bI
    have J := bH.i E z z
    have bJ := h
    obtain ⟨bs, bt, bu, rfl⟩ := J.shape
    have h := bJ
    refine WL.store (v := ag [vi c.Num, vi c.Type_, vu c.V, (vl bs bt bu)]) (cells' := [vi c.Num, vi c.Type_, vu c.V, (vl bs bt bu)]) ty72 z z bI z (le_ z) z z ?_
    intro C l d
    refine nl (th (sq (sq (rg (wY (yf fo72_0 z) z (wY (yl ty3 z z (d.cell 0 _ z)) z (wY (Y.lss_i z z) z (wY (ym z) z ?_))))))))
    refine WL.cut 4 (σ := Unit) (fun _ w' => C = w') (fun _ => [(0, v0), (4, vs t), (5, vi e), (6, pt j 0), (24, vB ((decide (c.Num < 1)) || (decide (536870911 < c.Num))))]) ?_ ?_
    ·refine WL.part 20 z (fun T => ?_) (fun T => ?_)
     ·refine WL.gS z z z z (WL.gS z z z z (WL.gS z z z z (wY (Y.pick (b := true) z z) z (WL.ren (v' := vB ((decide (c.Num < 1)) || (decide (536870911 < c.Num)))) 24 z (congrArg vB (orT T)) ?_))))
      exact nl (At.join () z (.cons z (.cons z (.cons z (.cons z (.cons z .nil))))))
     ·refine ug z z (wY (yf fo72_0 z) z (ug z z (wY (yl ty3 z z (d.cell 0 _ z)) z (ug z z (wY (Y.gtr_i z z) z (wY (Y.pick (b := false) z z) z (WL.ren (v' := vB ((decide (c.Num < 1)) || (decide (536870911 < c.Num)))) 24 z (congrArg vB (orF T)) ?_)))))))
      exact nl (At.join () z (.cons z (.cons z (.cons z (.cons z (.cons z .nil))))))
    ·rintro _ _ rfl
     refine (show WL _ _ _ _ _ [(0, v0), (4, vs t), (5, vi e), (6, pt j 0), (24, vB ((decide (c.Num < 1)) || (decide (536870911 < c.Num))))] _ from ?_)
     refine nl (th ?_)
     rcases cnd h with ⟨U, h⟩ | ⟨U, h⟩
     ·refine WC.condT' z U (sq (rg (wY (ya z) z (wY (ya z) z (nl (th (rt (At.thenR (At.inBlockR ?_)))))))))
      have h := outs1 h I
      refine At.joinR (At.thenR (At.loopR ?_))
      have h := outr1 h F H
      refine At.joinBR (At.inBlockR (At.thenR ?_))
      obtain ⟨rfl, rfl⟩ := tup2 h
      have bK : Stp [11] (Lg.O0 A) w ae C := (tr_ (su_ o z) (tr_ (su_ E z) (su_ l z)))
      exact At.res (.inl z) z (.tmp z (.tmp z .nil)) ⟨sn, z, (se_ bK z z), (Or.inl ⟨z, z⟩)⟩
     ·refine WC.condF' z U (sk (th (sq (sq (rg (wY (yf fo72_1 z) z (wY (yl ty3 z z (d.cell 1 _ z)) z (wY (Y.lss_i z z) z (wY (ym z) z ?_)))))))))
      refine WL.cut 4 (σ := Unit) (fun _ w' => C = w') (fun _ => [(0, v0), (4, vs t), (5, vi e), (6, pt j 0), (32, vB ((decide (c.Type_ < 0)) || (decide (2 < c.Type_))))]) ?_ ?_
      ·refine WL.part 28 z (fun W => ?_) (fun W => ?_)
       ·refine WL.gS z z z z (WL.gS z z z z (WL.gS z z z z (wY (Y.pick (b := true) z z) z (WL.ren (v' := vB ((decide (c.Type_ < 0)) || (decide (2 < c.Type_)))) 32 z (congrArg vB (orT W)) ?_))))
        exact nl (At.join () z (.cons z (.cons z (.cons z (.cons z (.cons z .nil))))))
       ·refine ug z z (wY (yf fo72_1 z) z (ug z z (wY (yl ty3 z z (d.cell 1 _ z)) z (ug z z (wY (Y.gtr_i z z) z (wY (Y.pick (b := false) z z) z (WL.ren (v' := vB ((decide (c.Type_ < 0)) || (decide (2 < c.Type_)))) 32 z (congrArg vB (orF W)) ?_)))))))
        exact nl (At.join () z (.cons z (.cons z (.cons z (.cons z (.cons z .nil))))))
      ·rintro _ _ rfl
       refine (show WL _ _ _ _ _ [(0, v0), (4, vs t), (5, vi e), (6, pt j 0), (32, vB ((decide (c.Type_ < 0)) || (decide (2 < c.Type_))))] _ from ?_)
       refine nl (th ?_)
       rcases cnd h with ⟨X, h⟩ | ⟨X, h⟩
       ·refine WC.condT' z X (sq (rg (wY (ya z) z (wY (ya z) z (nl (th (rt (At.thenR (At.inBlockR ?_)))))))))
        have h := outs1 h I
        refine At.joinR (At.thenR (At.loopR ?_))
        have h := outr1 h F H
        refine At.joinBR (At.inBlockR (At.thenR ?_))
        obtain ⟨rfl, rfl⟩ := tup2 h
        have bL : Stp [11] (Lg.O0 A) w ae C := (tr_ (su_ o z) (tr_ (su_ E z) (su_ l z)))
        exact At.res (.inl z) z (.tmp z (.tmp z .nil)) ⟨sn, z, (se_ bL z z), (Or.inl ⟨z, z⟩)⟩
       ·refine WC.condF' z X (sk (th (sq (sq (rg (wY (yf fo72_1 z) z (wY (yl ty3 z z (d.cell 1 _ z)) z (wY (Y.eql_i z z) z (wY (ym z) z ?_)))))))))
        refine WL.cut 4 (σ := Unit) (fun _ w' => C = w') (fun _ => [(0, v0), (4, vs t), (5, vi e), (6, pt j 0), (40, vB ((decide (c.Type_ = 2)) && (!decide (c.V = 0))))]) ?_ ?_
        ·refine WL.part 36 z (fun Z => ?_) (fun Z => ?_)
         ·refine ug z z (wY (yf fo72_2 z) z (ug z z (wY (yl ty33 z z (d.cell 2 _ z)) z (ug z z (wY (Y.neq_u (b := 0) z z) z (wY (Y.pick (b := true) z z) z (WL.ren (v' := vB ((decide (c.Type_ = 2)) && (!decide (c.V = 0)))) 40 z (congrArg vB (andT Z)) ?_)))))))
          exact nl (At.join () z (.cons z (.cons z (.cons z (.cons z (.cons z .nil))))))
         ·refine WL.gS z z z z (WL.gS z z z z (WL.gS z z z z (wY (Y.pick (b := false) z z) z (WL.ren (v' := vB ((decide (c.Type_ = 2)) && (!decide (c.V = 0)))) 40 z (congrArg vB (andF Z)) ?_))))
          exact nl (At.join () z (.cons z (.cons z (.cons z (.cons z (.cons z .nil))))))
        ·rintro _ _ rfl
         refine (show WL _ _ _ _ _ [(0, v0), (4, vs t), (5, vi e), (6, pt j 0), (40, vB ((decide (c.Type_ = 2)) && (!decide (c.V = 0))))] _ from ?_)
         refine wY (ym z) z ?_
         refine WL.cut 10 (σ := Unit) (fun _ w' => C = w') (fun _ => [(0, v0), (4, vs t), (5, vi e), (6, pt j 0), (51, vB (((decide (c.Type_ = 2)) && (!decide (c.V = 0))) || ((decide (c.Type_ < 2)) && (decide (0 < (c.B.length : Int))))))]) ?_ ?_
         ·refine WL.part 41 z (fun aa => ?_) (fun aa => ?_)
          ·refine WL.gS z z z z (WL.gS z z z z (WL.gS z z z z (WL.gS z z z z (WL.gS z z z z (WL.gS z z z z (WL.gS z z z z (WL.gS z z z z (WL.gS z z z z (wY (Y.pick (b := true) z z) z ?_)))))))))
           refine WL.ren (v' := vB (((decide (c.Type_ = 2)) && (!decide (c.V = 0))) || ((decide (c.Type_ < 2)) && (decide (0 < (c.B.length : Int)))))) 51 z (congrArg vB (orT aa)) ?_
           exact nl (At.join () z (.cons z (.cons z (.cons z (.cons z (.cons z .nil))))))
          ·refine ug z z (wY (yf fo72_1 z) z (ug z z (wY (yl ty3 z z (d.cell 1 _ z)) z (ug z z (wY (Y.lss_i z z) z (ug z z (wY (ym z) z ?_)))))))
           refine WL.cut 5 (σ := Unit) (fun _ w' => C = w') (fun _ => [(0, v0), (4, vs t), (5, vi e), (6, pt j 0), (41, vB false), (42, pt j 1), (43, vi c.Type_), (44, vB (decide (c.Type_ < 2))), (45, vB (decide (c.Type_ < 2))), (50, vB ((decide (c.Type_ < 2)) && (decide (0 < (c.B.length : Int)))))]) ?_ ?_
           ·refine WL.part 45 z (fun G => ?_) (fun G => ?_)
            ·refine ug z z (wY (yf fo72_3 z) z (ug z z (wY (yl ty51 z z (d.cell 3 _ z)) z (ug z z ?_))))
             have bM := J.i l z z
             refine wY (Y.len ty51 z bM) z (ug z z (wY (Y.gtr_i z z) z (ug z z (wY (Y.pick (b := true) z z) z (WL.ren (v' := vB ((decide (c.Type_ < 2)) && (decide (0 < (c.B.length : Int))))) 50 z (congrArg vB (andT G)) (WL.ren 45 z (congrArg vB G.symm) ?_))))))
             exact nl (At.join () z (.cons z (.cons z (.cons z (.cons z (.cons z (.cons z (.cons z (.cons z (.cons z (.cons z .nil)))))))))))
            ·refine WL.gS z z z z (WL.gS z z z z (WL.gS z z z z (WL.gS z z z z (ug z z (wY (Y.pick (b := false) z z) z (WL.ren (v' := vB ((decide (c.Type_ < 2)) && (decide (0 < (c.B.length : Int))))) 50 z (congrArg vB (andF G)) (WL.ren 45 z (congrArg vB G.symm) ?_)))))))
             exact nl (At.join () z (.cons z (.cons z (.cons z (.cons z (.cons z (.cons z (.cons z (.cons z (.cons z (.cons z .nil)))))))))))
           ·rintro _ _ rfl
            refine (show WL _ _ _ _ _ [(0, v0), (4, vs t), (5, vi e), (6, pt j 0), (41, vB false), (42, pt j 1), (43, vi c.Type_), (44, vB (decide (c.Type_ < 2))), (45, vB (decide (c.Type_ < 2))), (50, vB ((decide (c.Type_ < 2)) && (decide (0 < (c.B.length : Int)))))] _ from ?_)
            refine wY (Y.pick (b := false) z z) z (WL.ren (v' := vB (((decide (c.Type_ = 2)) && (!decide (c.V = 0))) || ((decide (c.Type_ < 2)) && (decide (0 < (c.B.length : Int)))))) 51 z (congrArg vB (orF aa)) ?_)
            exact nl (At.join () z (.cons z (.cons z (.cons z (.cons z (.cons z .nil))))))
         ·rintro _ _ rfl
          refine (show WL _ _ _ _ _ [(0, v0), (4, vs t), (5, vi e), (6, pt j 0), (51, vB (((decide (c.Type_ = 2)) && (!decide (c.V = 0))) || ((decide (c.Type_ < 2)) && (decide (0 < (c.B.length : Int))))))] _ from ?_)
          refine nl (th ?_)
          rcases cnd h with ⟨ab, h⟩ | ⟨ab, h⟩
          ·refine WC.condT' z ab (sq (rg (wY (ya z) z (wY (ya z) z (nl (th (rt (At.thenR (At.inBlockR ?_)))))))))
           have h := outs1 h I
           refine At.joinR (At.thenR (At.loopR ?_))
           have h := outr1 h F H
           refine At.joinBR (At.inBlockR (At.thenR ?_))
           obtain ⟨rfl, rfl⟩ := tup2 h
           have bO : Stp [11] (Lg.O0 A) w ae C := (tr_ (su_ o z) (tr_ (su_ E z) (su_ l z)))
           exact At.res (.inl z) z (.tmp z (.tmp z .nil)) ⟨sn, z, (se_ bO z z), (Or.inl ⟨z, z⟩)⟩
          ·refine WC.condF' z ab (sk (th (sq (rg (wY (ym z) z (wY (yf fo72_0 z) z (wY (yl ty3 z z (d.cell 0 _ z)) z (wY (Y.conv_iu ty3.u ty33.u z) z (wY (Y.mul_u (b := 8) z z) z ?_)))))))))
           refine wY (yf fo72_1 z) z (wY (yl ty3 z z (d.cell 1 _ z)) z (wY (Y.conv_iu ty3.u ty33.u z) z (wY (Y.add_u z z) z ?_)))
           obtain ⟨cf, bP, h⟩ := bnd h
           refine WL.call (vals := [vu (((toU64 c.Num) * 8) + (toU64 c.Type_))]) kok85 z z (c_ref30_Var bP) ?_
           rintro ar au ⟨_, rfl, bQ, cg⟩
           obtain ⟨af, ch, av, p⟩ := adoptE ae (fun k => if ob ar = some k then 12 else 1) bQ
           have bR : OwnSl 12 Rep.b 5 af au ar cf := RowF.adopt 12 Flat.b cg av (fun k hk => if_pos hk)
           refine wY (Y.b2s ty51 ty5 ty9 z bR.src.sl) z ?_
           obtain ⟨ci, bS, h⟩ := bnd h
           refine wY (Y.add_s bS z z) z (wY (ya z) z (nl (th (sq ?_))))
           obtain ⟨cj, h, bT⟩ := bnd h
           refine WC.join (σ := (List UInt8 × Own)) (fun x w' => x.1 = cj ∧ Stp [] af au x.2 w') (fun x => [(0, v0), (4, vs x.1), (5, vi e), (6, pt j 0)]) ?_ ?_
           ·refine sq (rg (wY (yf fo72_1 z) z ?_))
            have ax := d.st p z
            refine wY (yl ty3 z z (ax.cell 1 _ z)) z (wY (Y.eql_i z z) z (nl (th ?_)))
            rcases cnd h with ⟨ac, h⟩ | ⟨ac, h⟩
            ·refine WC.condT' z ac (rg (wY (ym z) z (wY (yf fo72_2 z) z (wY (yl ty33 z z (ax.cell 2 _ z)) z ?_))))
             obtain ⟨ck, bU, h⟩ := bnd h
             refine WL.call (vals := [vu c.V]) kok85 z z (c_ref30_Var bU) ?_
             rintro ah aN ⟨_, rfl, bW, cl⟩
             obtain ⟨ay, b8, an, az⟩ := adoptE af (fun k => if ob ah = some k then 13 else 1) bW
             have aO : OwnSl 13 Rep.b 5 ay aN ah ck := RowF.adopt 13 Flat.b cl an (fun k hk => if_pos hk)
             refine wY (Y.b2s ty51 ty5 ty9 z aO.src.sl) z ?_
             obtain ⟨bX, aP, h⟩ := bnd h
             refine wY (Y.add_s aP z z) z (wY (ya z) z (nl ?_))
             exact At.join (σ := (List UInt8 × Own)) (bX, ay) ⟨some1 h, (su_ az z)⟩ (.cons z (.cons z (.cons z (.cons z .nil))))
            ·refine WC.condF' z ac (sk ?_)
             exact At.join (σ := (List UInt8 × Own)) (ci, af) ⟨some1 h, (sr_ _ _ _)⟩ (.cons z (.cons z (.cons z (.cons z .nil))))
           ·rintro ⟨bw, aA⟩ bY ⟨rfl, r⟩
            replace h := bT
            try dsimp only at h r
            refine (show At _ _ _ [(0, v0), (4, vs bw), (5, vi e), (6, pt j 0)] _ from ?_)
            refine th (sq ?_)
            obtain ⟨bZ, h, aQ⟩ := bnd h
            refine WC.join (σ := (List UInt8 × Own)) (fun x w' => x.1 = bZ ∧ Stp [] aA bY x.2 w') (fun x => [(0, v0), (4, vs x.1), (5, vi e), (6, pt j 0)]) ?_ ?_
            ·refine sq (rg (wY (yf fo72_1 z) z ?_))
             have ai := (d.st p z).st r z
             refine wY (yl ty3 z z (ai.cell 1 _ z)) z (wY (Y.eql_i z z) z (nl (th ?_)))
             rcases cnd h with ⟨K, h⟩ | ⟨K, h⟩
             ·refine WC.condT' z K (rg (wY (ym z) z (wY (yf fo72_2 z) z (wY (yl ty33 z z (ai.cell 2 _ z)) z ?_))))
              obtain ⟨cE, aS, h⟩ := bnd h
              refine WL.call (vals := [vu c.V]) kok86 z z (c_ref30_fix aS) ?_
              rintro cs ct ⟨rfl, aT⟩
              obtain ⟨b0, b9, ca, aC⟩ := adoptE aA (fun k => 1) aT
              obtain ⟨b1, aU, h⟩ := bnd h
              refine wY (Y.add_s aU z z) z (wY (ya z) z (nl ?_))
              exact At.join (σ := (List UInt8 × Own)) (b1, b0) ⟨some1 h, (su_ aC z)⟩ (.cons z (.cons z (.cons z (.cons z .nil))))
             ·refine WC.condF' z K (sk ?_)
              exact At.join (σ := (List UInt8 × Own)) (bw, aA) ⟨some1 h, (sr_ _ _ _)⟩ (.cons z (.cons z (.cons z (.cons z .nil))))
            ·rintro ⟨aD, ad⟩ cu ⟨rfl, m⟩
             replace h := aQ
             try dsimp only at h m
             refine (show At _ _ _ [(0, v0), (4, vs aD), (5, vi e), (6, pt j 0)] _ from ?_)
             refine th (sq (rg (wY (yf fo72_1 z) z ?_)))
             have L := ((d.st p z).st r z).st m z
             refine wY (yl ty3 z z (L.cell 1 _ z)) z (wY (Y.eql_i z z) z (nl (th ?_)))
             rcases cnd h with ⟨M, h⟩ | ⟨M, h⟩
             ·refine WC.condT' z M (WC.drawH [] [0, 1, 2, 3, 4, 5, 6, 7, 8, 9, 10, 11, 12] ad 13 fmix z (by kernel_rfl) ?_)
              intro cv D
              refine WD.y 0 z (by kernel_rfl) (fun _ _ _ => ym z) z (WD.y 1 z (by kernel_rfl) (fun _ _ _ => yf fo72_3 z) z (WD.y 2 z (by kernel_rfl) (fun cw cF aE => have aY := L.st D z; have aZ := aY.st aE z; yl ty51 z z (aZ.cell 3 _ z)) z (WD.y 3 z (by kernel_rfl) (fun cx cG aF => have a1 := J.i l z z; have a2 := a1.i p z z; have a3 := a2.i r z z; have a4 := a3.i m z z; have a5 := a4.i D z z; have a6 := a5.i aF z z; Y.len ty51 z a6) z (WD.y 4 z (by kernel_rfl) (fun _ _ _ => Y.conv_iu ty3.u ty33.u z) z (WD.y 8 z (by kernel_rfl) (fun _ _ _ => yf fo72_3 z) z (WD.y 9 z (by kernel_rfl) (fun cy cH aG => have a7 := L.st D z; have a8 := a7.st aG z; yl ty51 z z (a8.cell 3 _ z)) z (WD.y 10 z (by kernel_rfl) (fun cz cI aH => have a9 := J.i l z z; have ba := a9.i p z z; have bb := ba.i r z z; have bc := bb.i m z z; have bd := bc.i D z z; have bf := bd.i aH z z; Y.b2s ty51 ty5 ty9 z bf) z (WD.heavy 5 z (by kernel_rfl) ?_))))))))
              obtain ⟨b2, bg, h⟩ := bnd h
              refine WL.call (vals := [vu (toU64 (c.B.length : Int))]) kok85 z z (c_ref30_Var bg) ?_
              rintro aj bh ⟨_, rfl, bi, b3⟩
              obtain ⟨aI, cb, ao, P⟩ := adoptE ad (fun k => if ob aj = some k then 14 else 1) bi
              have bj : OwnSl 14 Rep.b 5 aI bh aj b2 := RowF.adopt 14 Flat.b b3 ao (fun k hk => if_pos hk)
              refine nl (At.dq (su_ P z) (WD.y 6 z (by kernel_rfl) (fun cA cJ aJ => have bk := bj.st aJ z z z; Y.b2s ty51 ty5 ty9 z bk.src.sl) z ?_))
              obtain ⟨cK, bl, h⟩ := bnd h
              refine WD.y 7 z (by kernel_rfl) (fun _ _ _ => Y.add_s bl z z) z ?_
              obtain ⟨b4, bm, h⟩ := bnd h
              refine WD.y 11 z (by kernel_rfl) (fun _ _ _ => Y.add_s bm z z) z (WD.y 12 z (by kernel_rfl) (fun _ _ _ => ya z) z (WD.done_ (by kernel_rfl) (At.inBlock ?_)))
              exact At.join (σ := (List UInt8 × Own)) (b4, aI) ⟨go2 h, (tr_ (su_ E z) (tr_ (su_ l z) (tr_ (su_ p z) (tr_ (su_ r z) (tr_ (su_ m z) (tr_ (su_ D z) (su_ P z)))))))⟩ (.cons z (.cons z (.cons z .nil)))
             ·refine WC.condF' z M (sk (At.inBlock ?_))
              exact At.join (σ := (List UInt8 × Own)) (aD, ad) ⟨go2 h, (tr_ (su_ E z) (tr_ (su_ l z) (tr_ (su_ p z) (tr_ (su_ r z) (su_ m z)))))⟩ (.cons z (.cons z (.cons z .nil)))
   ·rintro ⟨bx, cm⟩ cL ⟨rfl, ak⟩
    replace h := flowK_go I
    try dsimp only at h ak
    refine (show At _ _ _ [(0, v0), (4, vs bx), (5, vi e)] _ from ?_)
    refine th (rg (wY (ym z) z (wY (Y.add_i z z) z ?_)))
    obtain ⟨b5, bn, h⟩ := lt1 h
    refine WL.yE (ya z) (congrArg vi bn.symm) z (nl ?_)
    exact At.round (bx, b5, cm) cc (Nat.lt_succ_self _) ⟨next1 h F, (tr_ (su_ o z) (su_ ak z))⟩ (.cons z (.cons z (.cons z .nil)))
  ·refine WC.condF' z Q (WC.exit (At.thenX (At.loopX ?_)))
   exact At.hitB (σ := (List UInt8 × Own)) (t, ap) ⟨brk1 h F, (su_ o z)⟩ (.cons z .nil)
 ·rintro ⟨cn, co⟩ cM ⟨rfl, al⟩
  replace h := flowK_go H
  try dsimp only at h al
  refine (show At _ _ _ [(4, vs cn)] _ from ?_)
  refine At.inBlockHit (th (sq (rg (wY (ym z) z (WL.s2b (O := co) ty9 ty51 ty5 z z ?_)))))
  intro b6 b7 bo aK bp
  refine wY (ya z) z (wY (ya z) z (nl (th (rt ?_))))
  obtain ⟨rfl, rfl⟩ := tup2 h
  have am : Stp [11] (Lg.O0 A) w b7 bo := (tr_ (su_ al z) (su_ aK z))
  exact At.res (.inl z) z (.tmp z (.tmp z .nil)) ⟨b6, z, (se_ am z z), (Sl.outF bp am low0)⟩
theorem c_ref31_sub {A : Nat → Prop} {a0 : Int} {a1 : List api_Fld} {v1 : Value} {w : World} (hs1 : Sl rep_api_Fld w A v1 a1) {r0 : api_Fld} (h : ref31_sub a0 a1 = some r0) : Rets Tryz.prog 44 [vi a0, v1] w (fun v w' => ∃ (m : Value), v = ag [vi r0.Num, vi r0.Type_, vu r0.V, m] ∧ Ext w w' ∧ Sl Rep.b w' (fun k => w.heap.size ≤ k) m r0.B) := by
 unfold ref31_sub at h
 refine Rets.enter Tryz.func44 z z ?_
 have C : Sl rep_api_Fld w (imm (Lg.O0 A)) v1 a1 := (Sl.start hs1)
 refine (show WC _ _ _ _ [(0, vi a0), (1, v1)] _ from ?_)
 refine sq (rg (WL.alloc (O := (Lg.O0 A)) 11 [vi 0, vi 0, vu 0, sn] ty72 z z ?_))
 intro Z P W e D
 refine nl (th (sq (rg (wY (ym z) z ?_))))
 have E := C.i e z z
 obtain ⟨⟨Q, aa⟩, F, h⟩ := bnd h
 refine WL.call (vals := [v1]) kok47 z z (c_ref30_Encode (A := fun _ => True) (Sl.all E) F) ?_
 rintro X G ⟨S, rfl, H, T⟩
 obtain ⟨t, U, o, j⟩ := adoptE P (fun k => 1) H
 have p : Sl Rep.b G (frs t) S Q := Sl.adoptF T (fun k hk => ⟨hk, z⟩) o
 refine wY (ym z) z (wY (yx z z) z (wY (yx z z) z (wY (ya z) z (wY (ya z) z (nl (th (sq (rg (wY (ym z) z ?_)))))))))
 refine wY (ym z) z ?_
 have I := h
 obtain ⟨p31, c, d, rfl⟩ := p.shape
 have h := I
 refine wY (yb (vals := [(0, vi a0), (1, vi 2), (3, (vl p31 c d))]) (cells := [vi a0, vi 2, vu 0, (vl p31 c d)]) (fe_ z) (by kernel_rfl)) z ?_
 have J := D.st j z
 refine WL.store (v := ag [vi a0, vi 2, vu 0, (vl p31 c d)]) (cells' := [vi a0, vi 2, vu 0, (vl p31 c d)]) ty72 z z J z (le_ z) z z ?_
 intro K l L
 refine nl (th (rt ?_))
 obtain rfl := some1 h
 have r : Stp [11] (Lg.O0 A) w t K := (tr_ (su_ e z) (tr_ (su_ j z) (su_ l z)))
 have M := p.f l z
 exact At.res (.inl z) z (.cell z (L.runAg 0 [vi a0, vi 2, vu 0, (vl p31 c d)] ty72 z z z) .nil) ⟨(vl p31 c d), z, (se_ r z z), (Sl.outF M r low0)⟩
theorem c_ref11_Sorted {A : Nat → Prop} {a0 : List api_Pair} {v0 : Value} {w : World} (hs0 : Sl rep_api_Pair w A v0 a0) {r0 : List api_Pair} (h : ref11_Sorted a0 = some r0) : Rets Tryz.prog 30 [v0] w (fun v w' => ∃ (u0 : Value), v = u0 ∧ Ext w w' ∧ RowF rep_api_Pair 67 w w' u0 r0) := by
 unfold ref11_Sorted at h
 refine Rets.enter Tryz.func30 z z ?_
 have bl : Sl rep_api_Pair w (imm (Lg.O0 A)) v0 a0 := (Sl.start hs0)
 refine (show WC _ _ _ _ [(0, v0)] _ from ?_)
 refine sq (rg (wY (ya z) z (nl (th (sq (rg (wY (ya z) z (nl (th ?_)))))))))
 refine sq (sq (rg (wY (ya z) z (nl (th (WC.block ?_))))))
 obtain ⟨bd, h, bm⟩ := flow1 h
 obtain ⟨bf, h⟩ := loop_some h
 refine WC.joinB 0 (σ := (List api_Pair × Own × Value)) (fun x w' => bd = .go x.1 ∧ Stp [11, 1001] (Lg.O0 A) w x.2.1 w' ∧ OwnSl 1002 rep_api_Pair 67 x.2.1 w' x.2.2 x.1) (fun x => [(3, x.2.2)]) ?_ ?_
 ·refine WC.loop (σ := (List api_Pair × Int × Own × Value)) (fun x k w' => loopN k (ref11_Sorted_lp1 a0) (x.1, x.2.1) = some bd ∧ Stp [11, 1001] (Lg.O0 A) w x.2.2.1 w' ∧ OwnSl 1001 rep_api_Pair 67 x.2.2.1 w' x.2.2.2 x.1) (fun x => [(0, v0), (3, x.2.2.2), (4, vi x.2.1)]) ([], 0, (Lg.O0 A), sn) bf (.cons z (.cons z (.cons z .nil))) ⟨h, (sr_ _ _ _), (OwnSl.nil 1001 rep_api_Pair 67)⟩ ?_
  rintro ⟨P, e, Q, d⟩ bf J ⟨h, l, p⟩
  obtain ⟨bH, cq, rfl, h, ab⟩ := rnd1 h
  unfold ref11_Sorted_lp1 at h
  try dsimp only at h l p
  refine (show WC _ _ _ _ [(0, v0), (3, d), (4, vi e)] _ from ?_)
  refine sq (sq (rg (wY (ym z) z (wY (ym z) z ?_))))
  have K := bl.i l z z
  refine wY (Y.len ty32 z K) z (wY (Y.lss_i z z) z (nl (th ?_)))
  rcases cnd h with ⟨L, h⟩ | ⟨L, h⟩
  ·refine WC.condT' z L (sk (th (sq (WC.block (sq (rg (wY (ym z) z (wY (Y.len ty32 z p.src.sl) z ?_))))))))
   obtain ⟨bI, bn, h⟩ := lt1 h
   refine WL.yE (ya z) (congrArg vi bn.symm) z (nl (th (sq ?_)))
   obtain ⟨bJ, h, bo⟩ := bnd h
   refine WC.join (σ := (Int × Own)) (fun x w' => x.1 = bJ ∧ Stp [] Q J x.2 w') (fun x => [(0, v0), (3, d), (4, vi e), (5, vi x.1)]) ?_ ?_
   ·refine WC.block ?_
    obtain ⟨bg, h, bp⟩ := flow1 h
    obtain ⟨bh, h⟩ := loop_some h
    refine WC.joinB 2 (σ := (Int × Own)) (fun x w' => bg = .go x.1 ∧ Stp [] Q J x.2 w') (fun x => [(0, v0), (3, d), (4, vi e), (5, vi x.1)]) ?_ ?_
    ·refine WC.loop (σ := (Int × Own)) (fun x k w' => loopN k (ref11_Sorted_lp2 a0 P e) x.1 = some bg ∧ Stp [] Q J x.2 w') (fun x => [(0, v0), (3, d), (4, vi e), (5, vi x.1)]) (bI, Q) bh (.cons z (.cons z (.cons z (.cons z .nil)))) ⟨h, (sr_ _ _ _)⟩ ?_
     rintro ⟨S, T⟩ bh b7 ⟨h, j⟩
     obtain ⟨bK, cr, rfl, h, ac⟩ := rnd1 h
     unfold ref11_Sorted_lp2 at h
     try dsimp only at h j
     refine (show WC _ _ _ _ [(0, v0), (3, d), (4, vi e), (5, vi S)] _ from ?_)
     refine sq (sq (WC.drawH [] [0, 1, 2, 3, 4, 5, 6, 7, 8, 9, 10, 11, 12, 13, 14, 15] T 16 fmix z (by kernel_rfl) ?_))
     intro bq m
     refine WD.y 0 z (by kernel_rfl) (fun _ _ _ => ym z) z (WD.y 1 z (by kernel_rfl) (fun _ _ _ => Y.gtr_i z z) z (WD.y 2 z (by kernel_rfl) (fun _ _ _ => ym z) z ?_))
     obtain ⟨bL, h, br⟩ := bnd h
     refine WD.join (σ := Bool) (f' := 0) [15, 14, 13, 12, 11, 10, 9, 8, 7, 6, 5, 4, 3, 2, 1, 0] (fun x O' w' => x = bL ∧ bq = w' ∧ T = O') (fun x => [(0, v0), (3, d), (4, vi e), (5, vi S), (30, vB x)]) (fun ad => ?_) ?_
     ·rcases cnd h with ⟨r, h⟩ | ⟨r, h⟩
      ·refine WD.ren 17 z (congrArg vB r) (WD.gT 3 z (by kernel_rfl) z z (fun _ _ _ => ym z) z (WD.gT 4 z (by kernel_rfl) z z (fun _ _ _ => ym z) z (WD.gT 5 z (by kernel_rfl) z z (fun _ _ _ => Y.sub_i z z) z ?_)))
       obtain ⟨U, bs, h⟩ := bnd h
       have ae := (p.st j z z z).st m z z z
       obtain ⟨cs, bW, b8, af, bu, bw, M, av⟩ := OwnSl.at ae bs
       obtain ⟨_, _, rfl, rfl, rfl⟩ := av
       replace M : CellsAt _ _ _ [vs U.Key, vs U.Val] := M
       have ax := CAt.own ae af M
       refine WD.gT 6 z (by kernel_rfl) z z (fun _ _ _ => Y.indexAddr ty32 ty67 z af z bu bw) z (WD.gT 7 z (by kernel_rfl) z z (fun _ _ _ => yf fo67_0 z) z (WD.gT 8 z (by kernel_rfl) z z (fun b9 ct ay => have az := ax.st ay z; yl ty9 z z (az.at_.sub 0 [vs U.Key] z)) z (WD.gT 9 z (by kernel_rfl) z z (fun _ _ _ => ym z) z (WD.gT 10 z (by kernel_rfl) z z (fun _ _ _ => ym z) z ?_))))
       obtain ⟨D, aA, h⟩ := bnd h
       have aD := (K.i j z z).i m z z
       obtain ⟨ca, bM, bO, bX, aE, aF, aG, E, ah, aH⟩ := Sl.at2 aD aA
       obtain ⟨_, _, rfl, rfl, rfl⟩ := ah
       replace E : CellsAt _ _ _ [vs D.Key, vs D.Val] := E
       have ai := CAt.imm E aH
       refine WD.gT 11 z (by kernel_rfl) z z (fun _ _ _ => Y.indexAddr ty32 ty67 z aE z aF aG) z (WD.gT 12 z (by kernel_rfl) z z (fun _ _ _ => yf fo67_0 z) z (WD.gT 13 z (by kernel_rfl) z z (fun bY cb aj => have aI := ai.st aj z; yl ty9 z z (aI.at_.sub 0 [vs D.Key] z)) z (WD.gT 14 z (by kernel_rfl) z z (fun _ _ _ => Y.gtr_s z z) z (WD.y 15 z (by kernel_rfl) (fun _ _ _ => Y.pick (b := true) z z) z (WD.ren 17 z (congrArg vB r.symm) ?_)))))
       exact ad (sLess D.Key U.Key) _ _ _ ⟨some1 h, z, z⟩ (.cons z (.cons z (.cons z (.cons z (.cons z .nil)))))
      ·refine WD.ren 17 z (congrArg vB r) (WD.gS 3 z (by kernel_rfl) z z z z (WD.gS 4 z (by kernel_rfl) z z z z (WD.gS 5 z (by kernel_rfl) z z z z (WD.gS 6 z (by kernel_rfl) z z z z (WD.gS 7 z (by kernel_rfl) z z z z (WD.gS 8 z (by kernel_rfl) z z z z (WD.gS 9 z (by kernel_rfl) z z z z (WD.gS 10 z (by kernel_rfl) z z z z (WD.gS 11 z (by kernel_rfl) z z z z ?_)))))))))
       refine WD.gS 12 z (by kernel_rfl) z z z z (WD.gS 13 z (by kernel_rfl) z z z z (WD.gS 14 z (by kernel_rfl) z z z z (WD.y 15 z (by kernel_rfl) (fun _ _ _ => Y.pick (b := false) z z) z (WD.ren 17 z (congrArg vB r.symm) ?_))))
       exact ad false _ _ _ ⟨some1 h, z, z⟩ (.cons z (.cons z (.cons z (.cons z (.cons z .nil)))))
     ·rintro bP _ _ ⟨rfl, rfl, rfl⟩
      replace h := br
      try dsimp only at h
      refine (show WD _ _ _ _ _ _ _ _ [(0, v0), (3, d), (4, vi e), (5, vi S), (30, vB bP)] _ _ from ?_)
      refine WD.done_ (by kernel_rfl) (th ?_)
      rcases cnd h with ⟨F, h⟩ | ⟨F, h⟩
      ·refine WC.condT' z F (sk (th (WC.block (rg (wY (ym z) z (wY (Y.sub_i z z) z ?_))))))
       obtain ⟨bx, aJ, h⟩ := lt1 h
       refine WL.yE (ya z) (congrArg vi aJ.symm) z (nl (At.inBlock ?_))
       exact At.round (bx, T) bK (Nat.lt_succ_self _) ⟨next1 h ac, (tr_ (su_ j z) (su_ m z))⟩ (.cons z (.cons z (.cons z (.cons z .nil))))
      ·refine WC.condF' z F (WC.exit (At.thenX (At.loopX ?_)))
       exact At.hitB (σ := (Int × Own)) (S, T) ⟨brk1 h ac, (tr_ (su_ j z) (su_ m z))⟩ (.cons z (.cons z (.cons z (.cons z .nil))))
    ·rintro ⟨bi, bQ⟩ cc ⟨rfl, W⟩
     replace h := flowK_go bp
     try dsimp only at h W
     refine (show At _ _ _ [(0, v0), (3, d), (4, vi e), (5, vi bi)] _ from ?_)
     refine At.inBlockHit ?_
     exact At.join (σ := (Int × Own)) (bi, bQ) ⟨some1 h, (su_ W z)⟩ (.cons z (.cons z (.cons z (.cons z .nil))))
   ·rintro ⟨bj, bR⟩ bz ⟨rfl, o⟩
    replace h := bo
    try dsimp only at h o
    refine (show At _ _ _ [(0, v0), (3, d), (4, vi e), (5, vi bj)] _ from ?_)
    refine th (sq (rg (wY (ya z) z (nl (th (sq (rg (wY (ym z) z (wY (ym z) z ?_)))))))))
    refine wY (ym z) z ?_
    obtain ⟨cd, aK, h⟩ := bnd h
    have X := p.st o z z z
    refine WL.sliceOwn ty32 ty67 z z z X aK z ?_
    intro ce aL
    obtain ⟨bZ, ak, h⟩ := bnd h
    have aM := OwnSl.nil (O := bR) (w := bz) 11 rep_api_Pair 67
    refine WL.append (by decide) ty32 ty67 z (by decide) z z aM aL.src ak z ?_
    intro cf bA b0 t aN
    refine wY (ya z) z (nl (th (sq (rg (wY (ym z) z (wY (ym z) z (wY (ym z) z ?_)))))))
    obtain ⟨c, aO, h⟩ := bnd h
    have aQ := (K.i o z z).i t z z
    obtain ⟨cg, bS, bT, b1, aR, aS, aT, G, al, aU⟩ := Sl.at2 aQ aO
    obtain ⟨_, _, rfl, rfl, rfl⟩ := al
    replace G : CellsAt _ _ _ [vs c.Key, vs c.Val] := G
    have am := CAt.imm G aU
    refine wY (Y.indexAddr ty32 ty67 z aR z aS aT) z (wY (yL ty67 z z am.at_ z) z (WL.buildSlice (O := bA) (R := rep_api_Pair) (vals := [(0, ag [vs c.Key, vs c.Val])]) 12 [vs c.Key, vs c.Val] (xs := [c]) (by decide) ty32 ty67 (by decide) (by decide) (fe_ z) (by kernel_rfl) z ⟨[vs c.Key, vs c.Val], [], z, ⟨[vs c.Key], [vs c.Val], z, z, z⟩, z⟩ z ?_))
    intro ch ci b2 C aW
    obtain ⟨b3, an, h⟩ := bnd h
    have aX := aN.st C z z z
    refine WL.append (by decide) ty32 ty67 z (by decide) z z aX aW.src an z ?_
    intro cj ck b4 H aY
    refine wY (ya z) z (nl (th (rg (wY (ym z) z (wY (ym z) z (wY (ym z) z ?_))))))
    obtain ⟨cl, aZ, h⟩ := bnd h
    have a3 := ((X.st t z z z).st C z z z).st H z z z
    obtain ⟨cm, I, a4⟩ := OwnSl.giveF rfl flat_api_Pair a3
    obtain ⟨cn, a5, a6⟩ := Sl.slice (ρ := [(46, d), (47, vi bj)]) (x := (.tmp 46)) (lo := (some (.tmp 47))) (hi := none) ty32 ty67 rfl rfl rfl a4 aZ
    refine wY (Y.sub (.cons z (.cons z .nil)) (a5 _ _)) z ?_
    obtain ⟨a7, ao, h⟩ := bnd h
    have a8 := aY.st I z z z
    refine WL.append (by decide) ty32 ty67 z (by decide) z z a8 (Sl.src (Sl.mono a6 frs_imm)) ao z ?_
    intro bB co b5 ap a9
    refine wY (ya z) z (nl (At.inBlock (th (rg (wY (ym z) z (wY (Y.add_i z z) z ?_))))))
    obtain ⟨bC, ba, h⟩ := lt1 h
    refine WL.yE (ya z) (congrArg vi ba.symm) z (nl ?_)
    obtain ⟨bD, aq, bb⟩ := OwnSl.rlb 1001 rfl a9
    exact At.round (a7, bC, bD, bB) bH (Nat.lt_succ_self _) ⟨next1 h ab, (tr_ (su_ l z) (tr_ (su_ o z) (tr_ (su_ t z) (tr_ (su_ C z) (tr_ (su_ H z) (tr_ (su_ I z) (tr_ (su_ ap z) (su_ aq z)))))))), bb⟩ (.cons z (.cons z (.cons z .nil)))
  ·refine WC.condF' z L (WC.exit (At.thenX (At.loopX ?_)))
   obtain ⟨bE, ar, bc⟩ := OwnSl.rlb 1002 rfl p
   exact At.hitB (σ := (List api_Pair × Own × Value)) (P, bE, d) ⟨brk1 h ab, (tr_ (su_ l z) (su_ ar z)), bc⟩ (.cons z .nil)
 ·rintro ⟨b6, bU, bk⟩ bG ⟨rfl, Z, au⟩
  replace h := flowK_go bm
  try dsimp only at h Z au
  refine (show At _ _ _ [(3, bk)] _ from ?_)
  refine At.inBlockHit (th (sq (rg (wY (ym z) z (wY (ya z) z (nl (th (rt ?_))))))))
  obtain rfl := some1 h
  have aa : Stp [11, 1001] (Lg.O0 A) w bU bG := (su_ Z z)
  exact At.res (.inl z) z (.tmp z .nil) ⟨bk, z, (se_ aa z z), (OwnSl.outF au aa low0 z)⟩
theorem c_ref02_Zig {a0 : Int} {w : World} {r0 : UInt64} (h : ref02_Zig a0 = some r0) : Rets Tryz.prog 83 [vi a0] w (fun v w' => v = vu r0 ∧ Ext w w') := by
 unfold ref02_Zig at h
 refine Rets.enter Tryz.func83 z z ?_
 refine (show WC _ _ _ _ [(0, vi a0)] _ from ?_)
 refine sq (rg (wY (ya (v := vu 0) z) z (nl (th (sq (sq (rg (wY (ym z) z (wY (Y.geq_i z z) z ?_)))))))))
 refine nl (th ?_)
 rcases cnd h with ⟨c, h⟩ | ⟨c, h⟩
 ·refine WC.condT' z c (sq (rg (wY (ym z) z (wY (Y.conv_iu ty3.u ty33.u z) z (wY (Y.mul_u (a := 2) z z) z ?_)))))
  obtain ⟨m, d, h⟩ := lt1 h
  refine WL.yE (ya z) (congrArg vu d.symm) z (nl (th (rt (At.thenR ?_))))
  obtain rfl := some1 h
  have e : Stp [] (Lg.O0 (fun _ => False)) w (Lg.O0 (fun _ => False)) w := (sr_ _ _ _)
  exact At.res (.inl z) z (.tmp z .nil) ⟨z, (se_ e z z)⟩
 ·refine WC.condF' z c (sk (th (sq (rg (wY (ym z) z (wY (Y.sub_i z z) z (wY (Y.conv_iu ty3.u ty33.u z) z (wY (Y.mul_u (a := 2) z z) z (wY (Y.add_u (b := 1) z z) z ?_)))))))))
  obtain ⟨o, j, h⟩ := lt1 h
  refine WL.yE (ya z) (congrArg vu j.symm) z (nl (th (rt ?_)))
  obtain rfl := some1 h
  have l : Stp [] (Lg.O0 (fun _ => False)) w (Lg.O0 (fun _ => False)) w := (sr_ _ _ _)
  exact At.res (.inl z) z (.tmp z .nil) ⟨z, (se_ l z z)⟩
theorem c_ref31_packed {A : Nat → Prop} {a0 : List UInt64} {v0 : Value} {w : World} (hs0 : Sl Rep.u w A v0 a0) {r0 : List UInt8} (h : ref31_packed a0 = some r0) : Rets Tryz.prog 120 [v0] w (fun v w' => ∃ (u0 : Value), v = u0 ∧ Ext w w' ∧ RowF Rep.b 5 w w' u0 r0) := by
 unfold ref31_packed at h
 refine Rets.enter Tryz.func120 z z ?_
 have S : Sl Rep.u w (imm (Lg.O0 A)) v0 a0 := (Sl.start hs0)
 refine (show WC _ _ _ _ [(0, v0)] _ from ?_)
 refine sq (rg (wY (ya z) z (nl (th (sq (rg (wY (ya z) z (nl (th ?_)))))))))
 refine sq (sq (rg (wY (ya z) z (nl (th (WC.block ?_))))))
 obtain ⟨K, h, T⟩ := flow1 h
 obtain ⟨L, h⟩ := loop_some h
 refine WC.joinB 0 (σ := (List UInt8 × Own × Value)) (fun x w' => K = .go x.1 ∧ Stp [1001] (Lg.O0 A) w x.2.1 w' ∧ OwnSl 1002 Rep.b 5 x.2.1 w' x.2.2 x.1) (fun x => [(3, x.2.2)]) ?_ ?_
 ·refine WC.loop (σ := (List UInt8 × Int × Own × Value)) (fun x k w' => loopN k (ref31_packed_lp1 a0) (x.1, x.2.1) = some K ∧ Stp [1001] (Lg.O0 A) w x.2.2.1 w' ∧ OwnSl 1001 Rep.b 5 x.2.2.1 w' x.2.2.2 x.1) (fun x => [(0, v0), (3, x.2.2.2), (4, vi x.2.1)]) ([], 0, (Lg.O0 A), sn) L (.cons z (.cons z (.cons z .nil))) ⟨h, (sr_ _ _ _), (OwnSl.nil 1001 Rep.b 5)⟩ ?_
  rintro ⟨E, am, an, M⟩ L aE ⟨h, c, d⟩
  obtain ⟨ao, aH, rfl, h, o⟩ := rnd1 h
  unfold ref31_packed_lp1 at h
  try dsimp only at h c d
  refine (show WC _ _ _ _ [(0, v0), (3, M), (4, vi am)] _ from ?_)
  refine sq (sq (rg (wY (ym z) z (wY (ym z) z ?_))))
  have p := S.i c z z
  refine wY (Y.len ty34 z p) z (wY (Y.lss_i z z) z (nl (th ?_)))
  rcases cnd h with ⟨e, h⟩ | ⟨e, h⟩
  ·refine WC.condT' z e (sk (th (sq (WC.block (rg (wY (ym z) z (wY (ym z) z (wY (ym z) z ?_))))))))
   obtain ⟨P, U, h⟩ := bnd h
   obtain ⟨aI, aA, aC, aF, W, X, Z, j, F, aa⟩ := Sl.at2 p U
   obtain rfl := F
   replace j : CellsAt _ _ _ [vu P] := j
   have G := CAt.imm j aa
   refine wY (Y.indexAddr ty34 ty33 z W z X Z) z (wY (yl ty33 z z G.at_) z ?_)
   obtain ⟨ap, ab, h⟩ := bnd h
   refine WL.call (vals := [vu P]) kok85 z z (c_ref30_Var ab) ?_
   rintro r ac ⟨_, rfl, ad, aq⟩
   obtain ⟨ar, au, t, l⟩ := adoptE an (fun k => if ob r = some k then 11 else 1) ad
   have ae : OwnSl 11 Rep.b 5 ar ac r ap := RowF.adopt 11 Flat.b aq t (fun k hk => if_pos hk)
   obtain ⟨af, H, h⟩ := bnd h
   have ah := d.st l z z z
   refine WL.append (by decide) ty51 ty5 z (by decide) z z ah ae.src H z ?_
   intro av ax aG I ai
   refine wY (ya z) z (nl (At.inBlock (th (rg (wY (ym z) z (wY (Y.add_i z z) z ?_))))))
   obtain ⟨i64, aj, h⟩ := lt1 h
   refine WL.yE (ya z) (congrArg vi aj.symm) z (nl ?_)
   exact At.round (af, i64, ax, av) ao (Nat.lt_succ_self _) ⟨next1 h o, (tr_ (su_ c z) (tr_ (su_ l z) (su_ I z))), ai⟩ (.cons z (.cons z (.cons z .nil)))
  ·refine WC.condF' z e (WC.exit (At.thenX (At.loopX ?_)))
   obtain ⟨ay, J, ak⟩ := OwnSl.rlb 1002 rfl d
   exact At.hitB (σ := (List UInt8 × Own × Value)) (E, ay, M) ⟨brk1 h o, (tr_ (su_ c z) (su_ J z)), ak⟩ (.cons z .nil)
 ·rintro ⟨aD, az, Q⟩ al ⟨rfl, m, C⟩
  replace h := flowK_go T
  try dsimp only at h m C
  refine (show At _ _ _ [(3, Q)] _ from ?_)
  refine At.inBlockHit (th (sq (rg (wY (ym z) z (wY (ya z) z (nl (th (rt ?_))))))))
  obtain rfl := some1 h
  have D : Stp [1001] (Lg.O0 A) w az al := (su_ m z)
  exact At.res (.inl z) z (.tmp z .nil) ⟨Q, z, (se_ D z z), (OwnSl.outF C D low0 z)⟩
theorem c_ref31_side {A : Nat → Prop} {v0_1 : Value} {a0 : api_Side} {w : World} (hs0_1 : Sl Rep.u w A v0_1 a0.Counts) {r0 : List api_Fld} (h : ref31_side a0 = some r0) : Rets Tryz.prog 84 [ag [vi a0.Offset, v0_1]] w (fun v w' => ∃ (u0 : Value), v = u0 ∧ Ext w w' ∧ Sl rep_api_Fld w' (fun k => w.heap.size ≤ k) u0 r0) := by
 unfold ref31_side at h
 refine Rets.enter Tryz.func84 z z ?_
 have C : Sl Rep.u w (imm (Lg.O0 A)) v0_1 a0.Counts := (Sl.start hs0_1)
 refine (show WC _ _ _ _ [(0, ag [vi a0.Offset, v0_1])] _ from ?_)
 refine sq (rg ?_)
 have W := h
 obtain ⟨M, P, Q, rfl⟩ := C.shape
 have h := W
 refine WL.box (O := (Lg.O0 A)) 11 [vi a0.Offset, (vl M P Q)] z z z ?_
 intro aK S aE o D
 refine wY (ya z) z (nl (th (sq (WC.drawH [12] [0, 1, 2, 3, 4, 5, 6, 7, 8, 9] S 10 fmix z (by kernel_rfl) ?_))))
 intro aF c
 refine WD.y 0 z (by kernel_rfl) (fun _ _ _ => yf fo36_0 z) z (WD.y 1 z (by kernel_rfl) (fun aG aL J => have X := D.st c z; have Z := X.st J z; yl ty3 z z (Z.cell 0 _ z)) z (WD.y 4 z (by kernel_rfl) (fun _ _ _ => yf fo36_1 z) z (WD.y 5 z (by kernel_rfl) (fun aH aM K => have aa := D.st c z; have ab := aa.st K z; yl ty34 z z (ab.cell 1 _ z)) z (WD.heavy 2 z (by kernel_rfl) ?_))))
 obtain ⟨d, ac, h⟩ := bnd h
 refine WL.call (vals := [vi a0.Offset]) kok83 z z (c_ref02_Zig ac) ?_
 rintro aI aJ ⟨rfl, ad⟩
 obtain ⟨ar, au, av, e⟩ := adoptE S (fun k => 1) ad
 refine nl (At.dq (su_ e z) (WD.y 3 z (by kernel_rfl) (fun _ _ _ => yb (vals := [(0, vi 1), (2, vu d)]) (cells := [vi 1, vi 0, vu d, sn]) (fe_ z) (by kernel_rfl)) z (WD.heavy 6 z (by kernel_rfl) ?_)))
 have ah := ((C.i o z z).i c z z).i e z z
 obtain ⟨T, ai, h⟩ := bnd h
 refine WL.call (vals := [(vl M P Q)]) kok120 z z (c_ref31_packed (A := fun _ => True) (Sl.all ah) ai) ?_
 rintro E F ⟨_, rfl, aj, ax⟩
 obtain ⟨ay, az, G, p⟩ := adoptE ar (fun k => if ob E = some k then 12 else 1) aj
 have H : OwnSl 12 Rep.b 5 ay F E T := RowF.adopt 12 Flat.b ax G (fun k hk => if_pos hk)
 refine nl (At.dq (su_ p z) ?_)
 have ak := h
 obtain ⟨j, l, m, rfl⟩ := H.shape
 have h := ak
 refine WD.y 7 z (by kernel_rfl) (fun _ _ _ => yb (vals := [(0, vi 2), (1, vi 2), (3, (vl j l m))]) (cells := [vi 2, vi 2, vu 0, (vl j l m)]) (fe_ z) (by kernel_rfl)) z (WD.heavy 8 z (by kernel_rfl) ?_)
 obtain ⟨U, r, al⟩ := OwnSl.giveF rfl Flat.b H
 have am : Stp [12] (Lg.O0 A) w U F := (tr_ (su_ o z) (tr_ (su_ c z) (tr_ (su_ e z) (tr_ (su_ p z) (su_ r z)))))
 refine WL.buildSlice (O := U) (R := (frR rep_api_Fld w.heap.size)) (vals := [(0, ag [vi 1, vi 0, vu d, sn]), (1, ag [vi 2, vi 2, vu 0, (vl j l m)])]) 13 [vi 1, vi 0, vu d, sn, vi 2, vi 2, vu 0, (vl j l m)] (xs := [(api_Fld.mk 1 0 d []), (api_Fld.mk 2 2 0 T)]) (by decide) ty70 ty72 (show 0 < rep_api_Fld.n by decide) (show 2 * rep_api_Fld.n ≤ 65536 by decide) (fe_ z) (by kernel_rfl) z ⟨[vi 1, vi 0, vu d, sn], [vi 2, vi 2, vu 0, (vl j l m)], z, ⟨[vi 1], [vi 0, vu d, sn], z, z, ⟨[vi 0], [vu d, sn], z, z, ⟨[vu d], [sn], z, z, ⟨_, z, (Or.inl ⟨z, z⟩)⟩⟩⟩⟩, ⟨[vi 2, vi 2, vu 0, (vl j l m)], [], z, ⟨[vi 2], [vi 2, vu 0, (vl j l m)], z, z, ⟨[vi 2], [vu 0, (vl j l m)], z, z, ⟨[vu 0], [(vl j l m)], z, z, ⟨_, z, (Sl.frB al am low0)⟩⟩⟩⟩, z⟩⟩ z ?_
 intro aA aC I t an
 refine nl (At.dq (tr_ (su_ r z) (su_ t z)) (WD.y 9 z (by kernel_rfl) (fun _ _ _ => ya z) z (WD.done_ (by kernel_rfl) (th (rt ?_)))))
 obtain rfl := some1 h
 have ao : Stp [12] (Lg.O0 A) w aC I := (tr_ (su_ o z) (tr_ (su_ c z) (tr_ (su_ e z) (tr_ (su_ p z) (tr_ (su_ r z) (su_ t z))))))
 obtain ⟨aD, L, ap⟩ := OwnSl.giveB rfl an ao low0
 have aq : Stp [12, 13] (Lg.O0 A) w aD I := (tr_ (su_ o z) (tr_ (su_ c z) (tr_ (su_ e z) (tr_ (su_ p z) (tr_ (su_ r z) (tr_ (su_ t z) (su_ L z)))))))
 exact At.res (.inl z) z (.tmp z .nil) ⟨aA, z, (se_ aq z z), (Sl.outFb ap)⟩
end Go.Lg
