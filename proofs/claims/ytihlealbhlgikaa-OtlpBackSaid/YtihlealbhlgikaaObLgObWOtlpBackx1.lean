/- The walks of OtlpBack and of what it calls, printed by gen.py. -/
import Derived.Test.YtihlealbhlgikaaObLgObWOtlpBackx0
set_option linter.unusedVariables false
namespace Go.Lg
open Go Go.Proofs
set_option maxRecDepth 100000
set_option maxHeartbeats 4000000
theorem c_wire_check {A : Nat → Prop} {v0_3 : Value} {a0 : api_Fld} {w : World} (hs0_3 : Sl Rep.b w A v0_3 a0.B) {r0 : Int} (h : wire_check a0 = some r0) : Rets Try.prog 64 [ag [vi a0.Num, vi a0.Type_, vu a0.V, v0_3]] w (fun v w' => v = vi r0 ∧ Ext w w') := by
 unfold wire_check at h
 refine Rets.enter Try.func64 z z ?_
 have I : Sl Rep.b w (imm (Lg.O0 A)) v0_3 a0.B := (Sl.start hs0_3)
 refine (show WC _ _ _ _ [(0, ag [vi a0.Num, vi a0.Type_, vu a0.V, v0_3])] _ from ?_)
 refine sq (rg ?_)
 have J := h
 obtain ⟨aa, ab, ac, rfl⟩ := I.shape
 have h := J
 refine WL.box (O := (Lg.O0 A)) 11 [vi a0.Num, vi a0.Type_, vu a0.V, (vl aa ab ac)] z z z ?_
 intro j l a d e
 refine wY (ya z) z (nl (th (sq (WC.block (sq (rg (wY (yf fo68_0 z) z (wY (yl ty3 z z (e.cell 0 _ z)) z (wY (Y.lss_i z z) z ?_)))))))))
 refine wY (ym z) z ?_
 refine WL.cut 4 (σ := Unit) (fun _ w' => a = w') (fun _ => [(1, pt j 0), (11, vB ((decide (a0.Num < 1)) || (decide (536870911 < a0.Num))))]) ?_ ?_
 ·refine WL.part 7 z (fun o => ?_) (fun o => ?_)
  ·refine WL.gS z z z z (WL.gS z z z z (WL.gS z z z z (wY (Y.pick (b := true) z z) z (WL.ren (v' := vB ((decide (a0.Num < 1)) || (decide (536870911 < a0.Num)))) 11 z (congrArg vB (orT o)) ?_))))
   exact nl (At.join () z (.cons z (.cons z .nil)))
  ·refine ug z z (wY (yf fo68_0 z) z (ug z z (wY (yl ty3 z z (e.cell 0 _ z)) z (ug z z (wY (Y.gtr_i z z) z (wY (Y.pick (b := false) z z) z (WL.ren (v' := vB ((decide (a0.Num < 1)) || (decide (536870911 < a0.Num)))) 11 z (congrArg vB (orF o)) ?_)))))))
   exact nl (At.join () z (.cons z (.cons z .nil)))
 ·rintro _ _ rfl
  refine (show WL _ _ _ _ _ [(1, pt j 0), (11, vB ((decide (a0.Num < 1)) || (decide (536870911 < a0.Num))))] _ from ?_)
  obtain ⟨ad, K, h⟩ := lt1 h
  refine WL.yE (ya z) (congrArg vB K.symm) z (nl (th ?_))
  rcases cnd h with ⟨r, h⟩ | ⟨r, h⟩
  ·refine WC.condT' z r (sq (rg (wY (ya z) z (nl (th (rt (At.inBlockR (At.thenR ?_))))))))
   obtain rfl := some1 h
   have L : Stp [] (Lg.O0 A) w l a := (su_ d z)
   exact At.res (.inl z) z (.tmp z .nil) ⟨z, (se_ L z z)⟩
  ·refine WC.condF' z r (sq (rg (wY (yf fo68_1 z) z (wY (yl ty3 z z (e.cell 1 _ z)) z (wY (Y.lss_i z z) z (wY (ym z) z ?_))))))
   refine WL.cut 4 (σ := Unit) (fun _ w' => a = w') (fun _ => [(1, pt j 0), (20, vB ((decide (a0.Type_ < 0)) || (decide (2 < a0.Type_))))]) ?_ ?_
   ·refine WL.part 16 z (fun t => ?_) (fun t => ?_)
    ·refine WL.gS z z z z (WL.gS z z z z (WL.gS z z z z (wY (Y.pick (b := true) z z) z (WL.ren (v' := vB ((decide (a0.Type_ < 0)) || (decide (2 < a0.Type_)))) 20 z (congrArg vB (orT t)) ?_))))
     exact nl (At.join () z (.cons z (.cons z .nil)))
    ·refine ug z z (wY (yf fo68_1 z) z (ug z z (wY (yl ty3 z z (e.cell 1 _ z)) z (ug z z (wY (Y.gtr_i z z) z (wY (Y.pick (b := false) z z) z (WL.ren (v' := vB ((decide (a0.Type_ < 0)) || (decide (2 < a0.Type_)))) 20 z (congrArg vB (orF t)) ?_)))))))
     exact nl (At.join () z (.cons z (.cons z .nil)))
   ·rintro _ _ rfl
    refine (show WL _ _ _ _ _ [(1, pt j 0), (20, vB ((decide (a0.Type_ < 0)) || (decide (2 < a0.Type_))))] _ from ?_)
    obtain ⟨ae, M, h⟩ := lt1 h
    refine WL.yE (ya z) (congrArg vB M.symm) z (nl (th ?_))
    rcases cnd h with ⟨C, h⟩ | ⟨C, h⟩
    ·refine WC.condT' z C (sq (rg (wY (ya z) z (nl (th (rt (At.inBlockR (At.thenR ?_))))))))
     obtain rfl := some1 h
     have P : Stp [] (Lg.O0 A) w l a := (su_ d z)
     exact At.res (.inl z) z (.tmp z .nil) ⟨z, (se_ P z z)⟩
    ·refine WC.condF' z C (sq (sq (rg (wY (yf fo68_1 z) z (wY (yl ty3 z z (e.cell 1 _ z)) z (wY (Y.neq_i z z) z (wY (ym z) z ?_)))))))
     refine WL.cut 5 (σ := Unit) (fun _ w' => a = w') (fun _ => [(1, pt j 0), (30, vB ((!decide (a0.Type_ = 2)) && (decide (0 < (a0.B.length : Int)))))]) ?_ ?_
     ·refine WL.part 25 z (fun D => ?_) (fun D => ?_)
      ·refine ug z z (wY (yf fo68_3 z) z (ug z z (wY (yl ty45 z z (e.cell 3 _ z)) z (ug z z ?_))))
       have Q := I.i d z z
       refine wY (Y.len ty45 z Q) z (ug z z (wY (Y.gtr_i z z) z (wY (Y.pick (b := true) z z) z (WL.ren (v' := vB ((!decide (a0.Type_ = 2)) && (decide (0 < (a0.B.length : Int))))) 30 z (congrArg vB (andT D)) ?_))))
       exact nl (At.join () z (.cons z (.cons z .nil)))
      ·refine WL.gS z z z z (WL.gS z z z z (WL.gS z z z z (WL.gS z z z z (wY (Y.pick (b := false) z z) z (WL.ren (v' := vB ((!decide (a0.Type_ = 2)) && (decide (0 < (a0.B.length : Int))))) 30 z (congrArg vB (andF D)) ?_)))))
       exact nl (At.join () z (.cons z (.cons z .nil)))
     ·rintro _ _ rfl
      refine (show WL _ _ _ _ _ [(1, pt j 0), (30, vB ((!decide (a0.Type_ = 2)) && (decide (0 < (a0.B.length : Int)))))] _ from ?_)
      obtain ⟨t31, S, h⟩ := lt1 h
      refine WL.yE (ya z) (congrArg vB S.symm) z (nl (th ?_))
      rcases cnd h with ⟨E, h⟩ | ⟨E, h⟩
      ·refine WC.condT' z E (sk (th ?_))
       rcases cnd h with ⟨F, h⟩ | ⟨F, h⟩
       ·refine WC.condT' z F (sq (rg (wY (ya z) z (nl (th (rt (At.inBlockR (At.thenR ?_))))))))
        obtain rfl := some1 h
        have T : Stp [] (Lg.O0 A) w l a := (su_ d z)
        exact At.res (.inl z) z (.tmp z .nil) ⟨z, (se_ T z z)⟩
       ·refine WC.condF' z F (sk (At.inBlock (th (sq (rg (wY (ya z) z (nl (th (rt ?_)))))))))
        obtain rfl := some1 h
        have U : Stp [] (Lg.O0 A) w l a := (su_ d z)
        exact At.res (.inl z) z (.tmp z .nil) ⟨z, (se_ U z z)⟩
      ·refine WC.condF' z E (rg (wY (yf fo68_1 z) z (wY (yl ty3 z z (e.cell 1 _ z)) z (wY (Y.eql_i z z) z (wY (ym z) z ?_)))))
       refine WL.cut 4 (σ := Unit) (fun _ w' => a = w') (fun _ => [(38, vB ((decide (a0.Type_ = 2)) && (!decide (a0.V = 0))))]) ?_ ?_
       ·refine WL.part 34 z (fun G => ?_) (fun G => ?_)
        ·refine ug z z (wY (yf fo68_2 z) z (ug z z (wY (yl ty26 z z (e.cell 2 _ z)) z (ug z z (wY (Y.neq_u (b := 0) z z) z (wY (Y.pick (b := true) z z) z (WL.ren (v' := vB ((decide (a0.Type_ = 2)) && (!decide (a0.V = 0)))) 38 z (congrArg vB (andT G)) ?_)))))))
         exact nl (At.join () z (.cons z .nil))
        ·refine WL.gS z z z z (WL.gS z z z z (WL.gS z z z z (wY (Y.pick (b := false) z z) z (WL.ren (v' := vB ((decide (a0.Type_ = 2)) && (!decide (a0.V = 0)))) 38 z (congrArg vB (andF G)) ?_))))
         exact nl (At.join () z (.cons z .nil))
       ·rintro _ _ rfl
        refine (show WL _ _ _ _ _ [(38, vB ((decide (a0.Type_ = 2)) && (!decide (a0.V = 0))))] _ from ?_)
        obtain ⟨af, W, h⟩ := lt1 h
        refine WL.yE (ya z) (congrArg vB W.symm) z (nl (th ?_))
        rcases cnd h with ⟨H, h⟩ | ⟨H, h⟩
        ·refine WC.condT' z H (sq (rg (wY (ya z) z (nl (th (rt (At.inBlockR (At.thenR ?_))))))))
         obtain rfl := some1 h
         have X : Stp [] (Lg.O0 A) w l a := (su_ d z)
         exact At.res (.inl z) z (.tmp z .nil) ⟨z, (se_ X z z)⟩
        ·refine WC.condF' z H (sk (At.inBlock (th (sq (rg (wY (ya z) z (nl (th (rt ?_)))))))))
         obtain rfl := some1 h
         have Z : Stp [] (Lg.O0 A) w l a := (su_ d z)
         exact At.res (.inl z) z (.tmp z .nil) ⟨z, (se_ Z z z)⟩
theorem c_wire_Var {a0 : UInt64} {w : World} {r0 : List UInt8} (h : wire_Var a0 = some r0) : Rets Try.prog 65 [vu a0] w (fun v w' => ∃ (u0 : Value), v = u0 ∧ Ext w w' ∧ RowF Rep.b 5 w w' u0 r0) := by
 unfold wire_Var at h
 refine Rets.enter Try.func65 z z ?_
 refine (show WC _ _ _ _ [(0, vu a0)] _ from ?_)
 refine sq (rg (wY (ya z) z (nl (th (sq (rg (wY (ya z) z (nl (th ?_)))))))))
 refine sq ?_
 obtain ⟨an, h, Z⟩ := bnd h
 refine WC.join (σ := (UInt64 × List UInt8 × Own × Value)) (fun x w' => (x.1, x.2.1) = an ∧ Stp [1001, 1002] (Lg.O0 (fun _ => False)) w x.2.2.1 w' ∧ OwnSl 1004 Rep.b 5 x.2.2.1 w' x.2.2.2 x.2.1) (fun x => [(0, vu x.1), (3, x.2.2.2)]) ?_ ?_
 ·refine WC.block ?_
  obtain ⟨S, h, aa⟩ := flow1 h
  obtain ⟨T, h⟩ := loop_some h
  refine WC.joinB 0 (σ := (UInt64 × List UInt8 × Own × Value)) (fun x w' => S = .go (x.1, x.2.1) ∧ Stp [1001] (Lg.O0 (fun _ => False)) w x.2.2.1 w' ∧ OwnSl 1002 Rep.b 5 x.2.2.1 w' x.2.2.2 x.2.1) (fun x => [(0, vu x.1), (3, x.2.2.2)]) ?_ ?_
  ·refine WC.loop (σ := (UInt64 × List UInt8 × Own × Value)) (fun x k w' => loopN k (wire_Var_lp1) (x.1, x.2.1) = some S ∧ Stp [1001] (Lg.O0 (fun _ => False)) w x.2.2.1 w' ∧ OwnSl 1001 Rep.b 5 x.2.2.1 w' x.2.2.2 x.2.1) (fun x => [(0, vu x.1), (3, x.2.2.2)]) (a0, [], (Lg.O0 (fun _ => False)), sn) T (.cons z (.cons z .nil)) ⟨h, (sr_ _ _ _), (OwnSl.nil 1001 Rep.b 5)⟩ ?_
   rintro ⟨a, H, ao, U⟩ T aE ⟨h, d, j⟩
   obtain ⟨ap, aL, rfl, h, D⟩ := rnd1 h
   unfold wire_Var_lp1 at h
   try dsimp only at h d j
   refine (show WC _ _ _ _ [(0, vu a), (3, U)] _ from ?_)
   refine sq (sq (rg (wY (ym z) z (wY (Y.gtr_u (b := 127) z z) z (nl (th ?_))))))
   rcases cnd h with ⟨l, h⟩ | ⟨l, h⟩
   ·refine WC.condT' z l (sk (th (WC.block (sq (rg (wY (ym z) z (wY (ym z) z (wY (Y.conv_ub ty26.u ty5.u z) z (wY (Y.or_b (b := 128) z z) z ?_)))))))))
    refine WL.buildSlice (O := ao) (R := Rep.b) (vals := [(0, vb (a.toUInt8 ||| 128))]) 11 [vb (a.toUInt8 ||| 128)] (xs := [(a.toUInt8 ||| 128)]) (by decide) ty45 ty5 (by decide) (by decide) (fe_ z) (by kernel_rfl) z ⟨[vb (a.toUInt8 ||| 128)], [], z, z, z⟩ z ?_
    intro aM aN aF o ab
    obtain ⟨ac, I, h⟩ := bnd h
    have ad := j.st o z z z
    refine WL.append (by decide) ty45 ty5 z (by decide) z z ad ab.src I z ?_
    intro aq ar aG J ae
    refine wY (ya z) z (nl (th (rg (wY (ym z) z (wY (Y.shr_uu (m := 7) z z) z ?_)))))
    obtain ⟨au, af, h⟩ := lt1 h
    refine WL.yE (ya z) (congrArg vu af.symm) z (nl (At.inBlock ?_))
    exact At.round (au, ac, ar, aq) ap (Nat.lt_succ_self _) ⟨next1 h D, (tr_ (su_ d z) (tr_ (su_ o z) (su_ J z))), ae⟩ (.cons z (.cons z .nil))
   ·refine WC.condF' z l (WC.exit (At.thenX (At.loopX ?_)))
    obtain ⟨av, K, ah⟩ := OwnSl.rlb 1002 rfl j
    exact At.hitB (σ := (UInt64 × List UInt8 × Own × Value)) (a, H, av, U) ⟨brk1 h D, (tr_ (su_ d z) (su_ K z)), ah⟩ (.cons z (.cons z .nil))
  ·rintro ⟨W, L, aO, X⟩ aH ⟨rfl, r, E⟩
   replace h := flowK_go aa
   try dsimp only at h r E
   refine (show At _ _ _ [(0, vu W), (3, X)] _ from ?_)
   refine At.inBlockHit ?_
   obtain ⟨ax, M, ai⟩ := OwnSl.rlb 1004 rfl E
   exact At.join (σ := (UInt64 × List UInt8 × Own × Value)) (W, L, ax, X) ⟨some1 h, (tr_ (su_ r z) (su_ M z)), ai⟩ (.cons z (.cons z .nil))
 ·rintro ⟨e, aD, ay, az⟩ aI ⟨rfl, t, F⟩
  replace h := Z
  try dsimp only at h t F
  refine (show At _ _ _ [(0, vu e), (3, az)] _ from ?_)
  refine th (sq (rg (wY (ym z) z (wY (ym z) z (wY (Y.conv_ub ty26.u ty5.u z) z (WL.buildSlice (O := ay) (R := Rep.b) (vals := [(0, vb e.toUInt8)]) 12 [vb e.toUInt8] (xs := [e.toUInt8]) (by decide) ty45 ty5 (by decide) (by decide) (fe_ z) (by kernel_rfl) z ⟨[vb e.toUInt8], [], z, z, z⟩ z ?_))))))
  intro aP aQ aJ C aj
  obtain ⟨aK, P, h⟩ := bnd h
  have ak := F.st C z z z
  refine WL.append (by decide) ty45 ty5 z (by decide) z z ak aj.src P z ?_
  intro aA aC al Q am
  refine wY (ya z) z (nl (th (rt ?_)))
  obtain rfl := some1 h
  have G : Stp [1001, 1002, 1004] (Lg.O0 (fun _ => False)) w aC al := (tr_ (su_ t z) (tr_ (su_ C z) (su_ Q z)))
  exact At.res (.inl z) z (.tmp z .nil) ⟨aA, z, (se_ G z z), (OwnSl.outF am G low0 z)⟩
theorem c_wire_eight {a0 : UInt64} {w : World} {r0 : List UInt8} (h : wire_eight a0 = some r0) : Rets Try.prog 66 [vu a0] w (fun v w' => ∃ (u0 : Value), v = u0 ∧ Ext w w' ∧ RowF Rep.b 5 w w' u0 r0) := by
 unfold wire_eight at h
 refine Rets.enter Try.func66 z z ?_
 refine (show WC _ _ _ _ [(0, vu a0)] _ from ?_)
 refine sq (rg (wY (ya z) z (nl (th (sq (rg ?_))))))
 obtain ⟨r, U, h⟩ := bnd h
 refine WL.make (O := (Lg.O0 (fun _ => False))) (R := Rep.b) (zx := (0 : UInt8)) 11 (by decide) ty45 ty5 z (by decide) (by decide) z z (fun _ _ => z) U z ?_
 intro a P C H D
 refine wY (ya z) z (nl (th (sq (sq (rg (wY (ym z) z (wY (Y.len ty45 z D.src.sl) z (wY (ym z) z (nl ?_)))))))))
 refine th (WC.block ?_)
 obtain ⟨Q, h, W⟩ := flow1 h
 obtain ⟨S, h⟩ := loop_some h
 refine WC.joinB 0 (σ := (List UInt8 × Own)) (fun x w' => Q = .go x.1 ∧ Stp [11, 1001] P C x.2 w' ∧ OwnSl 1002 Rep.b 5 x.2 w' a x.1) (fun x => [(3, a)]) ?_ ?_
 ·obtain ⟨ai, I, X⟩ := OwnSl.rlb 1001 rfl D
  refine WC.loop (σ := (List UInt8 × Int × Own)) (fun x k w' => loopN k (wire_eight_lp1 a0 r) (x.1, x.2.1) = some Q ∧ Stp [11, 1001] P C x.2.2 w' ∧ OwnSl 1001 Rep.b 5 x.2.2 w' a x.1) (fun x => [(0, vu a0), (3, a), (7, vi (r.length : Int)), (8, vi x.2.1)]) (r, 0, ai) S (.cons z (.cons z (.cons z (.cons z .nil)))) ⟨h, (su_ I z), X⟩ ?_
  rintro ⟨aj, T, ak⟩ S ar ⟨h, e, d⟩
  obtain ⟨al, ax, rfl, h, E⟩ := rnd1 h
  unfold wire_eight_lp1 at h
  try dsimp only at h e d
  refine (show WC _ _ _ _ [(0, vu a0), (3, a), (7, vi (r.length : Int)), (8, vi T)] _ from ?_)
  refine sq (rg (wY (Y.lss_i z z) z (nl (th (sq ?_)))))
  rcases cnd h with ⟨j, h⟩ | ⟨j, h⟩
  ·refine WC.condT' z j (sk (th (sq (WC.block (sq (rg (wY (ym z) z (wY (ya z) z (nl ?_)))))))))
   refine th (rg (wY (ym z) z (wY (ym z) z (wY (ym z) z (wY (ym z) z (wY (Y.mul_i z z) z (wY (Y.conv_iu ty3.u ty61.u z) z (wY (Y.shr_uu z z) z (wY (Y.conv_ub ty26.u ty5.u z) z ?_)))))))))
   obtain ⟨am, Z, h⟩ := bnd h
   obtain ⟨ay, ap, au, l, aa, ab, o, J⟩ := OwnSl.at d Z
   obtain rfl := J
   replace o : CellsAt _ _ _ [vb am] := o
   have aq := CAt.own d l o
   refine wY (Y.indexAddr ty45 ty5 z l z aa ab) z ?_
   obtain ⟨az, ac, h⟩ := lt1 h
   refine WL.ren 18 z (congrArg vb ac.symm) ?_
   obtain ⟨ad, K, h⟩ := bnd h
   refine WL.storeOwn (by decide) ty5 z z z d l K ?_
   intro av L ae
   refine nl (At.inBlock (th (rg (wY (Y.add_i z z) z (wY (ym z) z (nl ?_))))))
   exact At.round (ad, w64 (T + 1), ak) al (Nat.lt_succ_self _) ⟨next1 h E, (tr_ (su_ e z) (su_ L z)), ae⟩ (.cons z (.cons z (.cons z (.cons z .nil))))
  ·refine WC.condF' z j (WC.exit (At.thenX (At.loopX ?_)))
   obtain ⟨an, M, af⟩ := OwnSl.rlb 1002 rfl d
   exact At.hitB (σ := (List UInt8 × Own)) (aj, an) ⟨brk1 h E, (tr_ (su_ e z) (su_ M z)), af⟩ (.cons z .nil)
 ·rintro ⟨aA, ao⟩ ah ⟨rfl, t, F⟩
  replace h := flowK_go W
  try dsimp only at h t F
  refine (show At _ _ _ [(3, a)] _ from ?_)
  refine At.inBlockHit (th (sq (rg (wY (ym z) z (wY (ya z) z (nl (th (rt ?_))))))))
  obtain rfl := some1 h
  have G : Stp [11, 1001] (Lg.O0 (fun _ => False)) w ao ah := (tr_ (su_ H z) (su_ t z))
  exact At.res (.inl z) z (.tmp z .nil) ⟨a, z, (se_ G z z), (OwnSl.outF F G low0 z)⟩
theorem c_wire_Encode {A : Nat → Prop} {a0 : List api_Fld} {v0 : Value} {w : World} (hs0 : Sl rep_api_Fld w A v0 a0) {r0 : List UInt8} {r1 : Int} (h : wire_Encode a0 = some (r0, r1)) : Rets Try.prog 29 [v0] w (fun v w' => ∃ (u0 : Value), v = tp [u0, vi r1] ∧ Ext w w' ∧ RowF Rep.b 5 w w' u0 r0) := by
 unfold wire_Encode at h
 refine Rets.enter Try.func29 z z ?_
 have al : Sl rep_api_Fld w (imm (Lg.O0 A)) v0 a0 := (Sl.start hs0)
 refine (show WC _ _ _ _ [(0, v0)] _ from ?_)
 refine sq (rg (wY (ya z) z (wY (ya z) z (nl (th (sq (rg (wY (ya z) z (nl ?_)))))))))
 refine th (sq (sq (rg (wY (ym z) z (wY (Y.len ty66 z al) z (wY (ym z) z (nl (th (WC.block ?_)))))))))
 obtain ⟨bw, h, am⟩ := flow1 h
 obtain ⟨bx, h⟩ := loop_some h
 refine WC.joinB 0 (σ := (List UInt8 × Own × Value)) (fun x w' => bw = .go x.1 ∧ Stp [11, 1001, 1002] (Lg.O0 A) w x.2.1 w' ∧ OwnSl 1003 Rep.b 5 x.2.1 w' x.2.2 x.1) (fun x => [(4, x.2.2)]) ?_ ?_
 ·refine WC.loop (σ := (List UInt8 × Int × Own × Value)) (fun x k w' => loopN k (wire_Encode_lp1 a0) (x.1, x.2.1) = some bw ∧ Stp [11, 1001, 1002] (Lg.O0 A) w x.2.2.1 w' ∧ OwnSl 1002 Rep.b 5 x.2.2.1 w' x.2.2.2 x.1) (fun x => [(4, x.2.2.2), (8, v0), (9, vi (a0.length : Int)), (10, vi x.2.1)]) ([], 0, (Lg.O0 A), sn) bx (.cons z (.cons z (.cons z (.cons z .nil)))) ⟨h, (sr_ _ _ _), (OwnSl.nil 1002 Rep.b 5)⟩ ?_
  rintro ⟨aL, U, cs, bz⟩ bx cP ⟨h, d, L⟩
  obtain ⟨ct, c3, rfl, h, M⟩ := rnd1 h
  unfold wire_Encode_lp1 at h
  try dsimp only at h d L
  refine (show WC _ _ _ _ [(4, bz), (8, v0), (9, vi (a0.length : Int)), (10, vi U)] _ from ?_)
  refine sq (rg (wY (Y.lss_i z z) z (nl (th (sq ?_)))))
  rcases cnd h with ⟨P, h⟩ | ⟨P, h⟩
  ·refine WC.condT' z P (sk (th (sq (WC.block (sq (rg ?_))))))
   obtain ⟨a, bD, h⟩ := bnd h
   have bE := al.i d z z
   obtain ⟨c4, cG, cH, cQ, bG, bH, bI, Q, aM, bJ⟩ := Sl.at2 bE bD
   obtain ⟨_, _, rfl, rfl, ⟨_, _, rfl, rfl, ⟨_, _, rfl, rfl, ⟨cu, rfl, bK⟩⟩⟩⟩ := aM
   replace Q : CellsAt _ _ _ [vi a.Num, vi a.Type_, vu a.V, cu] := Q
   have aN := CAt.imm Q bJ
   refine wY (Y.indexAddr ty66 ty68 z bG z bH bI) z (wY (yL ty68 z z aN.at_ z) z (WL.alloc (O := cs) 11 [vi 0, vi 0, vu 0, sn] ty68 z z ?_))
   intro c5 cw cR l bL
   have an := bK.i l z z
   have bM := h
   obtain ⟨W, X, Z, rfl⟩ := an.shape
   have h := bM
   refine WL.store (v := ag [vi a.Num, vi a.Type_, vu a.V, (vl W X Z)]) (cells' := [vi a.Num, vi a.Type_, vu a.V, (vl W X Z)]) ty68 z z bL z (le_ z) z z ?_
   intro cS o ao
   refine nl (th (sq (sq (rg (wY (yL ty68 z z (ao.cells 0 [vi a.Num, vi a.Type_, vu a.V, (vl W X Z)] z) z) z ?_)))))
   have ap := an.i o z z
   obtain ⟨c6, bO, h⟩ := bnd h
   refine WL.call (vals := [ag [vi a.Num, vi a.Type_, vu a.V, (vl W X Z)]]) kok64 z z (c_wire_check (A := fun _ => True) (a0 := a) (Sl.all ap) bO) ?_
   rintro cT bP ⟨rfl, bQ⟩
   obtain ⟨bA, cx, cy, e⟩ := adoptE cw (fun k => 1) bQ
   refine wY (ya z) z (nl (th (sq (rg (wY (ym z) z (wY (Y.neq_i z z) z (nl (th ?_))))))))
   rcases cnd h with ⟨S, h⟩ | ⟨S, h⟩
   ·refine WC.condT' z S (sq (rg (wY (ym z) z (wY (ya z) z (wY (ya z) z (nl (th (rt (At.thenR ?_)))))))))
    refine At.inBlockR (At.thenR (At.loopR ?_))
    have h := outr1 h M am
    refine At.joinBR (At.inBlockR (At.thenR ?_))
    obtain ⟨rfl, rfl⟩ := tup2 h
    have bR : Stp [11, 1001, 1002] (Lg.O0 A) w bA bP := (tr_ (su_ d z) (tr_ (su_ l z) (tr_ (su_ o z) (su_ e z))))
    exact At.res (.inl z) z (.tmp z (.tmp z .nil)) ⟨sn, z, (se_ bR z z), RowF.nil⟩
   ·refine WC.condF' z S (sk (th (sq (rg (wY (ym z) z (wY (yf fo68_0 z) z ?_))))))
    have T := ao.st e z
    refine wY (yl ty3 z z (T.cell 0 _ z)) z (wY (Y.mul_i z z) z (wY (yf fo68_1 z) z (wY (yl ty3 z z (T.cell 1 _ z)) z (wY (Y.add_i z z) z (wY (Y.conv_iu ty3.u ty26.u z) z ?_)))))
    obtain ⟨cz, bS, h⟩ := bnd h
    refine WL.call (vals := [vu (toU64 (w64 ((w64 (8 * a.Num)) + a.Type_)))]) kok65 z z (c_wire_Var bS) ?_
    rintro aq bT ⟨_, rfl, bU, cA⟩
    obtain ⟨cC, cD, ar, r⟩ := adoptE bA (fun k => if ob aq = some k then 12 else 1) bU
    have bW : OwnSl 12 Rep.b 5 cC bT aq cz := RowF.adopt 12 Flat.b cA ar (fun k hk => if_pos hk)
    obtain ⟨bX, aO, h⟩ := bnd h
    have b1 := (((L.st l z z z).st o z z z).st e z z z).st r z z z
    refine WL.append (by decide) ty45 ty5 z (by decide) z z b1 bW.src aO z ?_
    intro cE aa b2 D E
    refine wY (ya z) z (nl (th (sq (rg (wY (yf fo68_1 z) z ?_)))))
    have t := (T.st r z).st D z
    refine wY (yl ty3 z z (t.cell 1 _ z)) z (nl (th ?_))
    obtain ⟨b4, h, aP⟩ := bnd h
    refine WC.join (σ := (List UInt8 × Own × Value)) (fun x w' => x.1 = b4 ∧ Stp [1002] aa b2 x.2.1 w' ∧ OwnSl 1001 Rep.b 5 x.2.1 w' x.2.2 x.1) (fun x => [(4, x.2.2), (8, v0), (9, vi (a0.length : Int)), (10, vi U)]) ?_ ?_
    ·refine WC.block (sq (rg (wY (Y.eql_i z z) z ?_)))
     obtain ⟨cU, aQ, h⟩ := lt1 h
     refine WL.yE (ya z) (congrArg vB aQ.symm) z (nl (th ?_))
     rcases cnd h with ⟨F, h⟩ | ⟨F, h⟩
     ·refine WC.condT' z F (rg (wY (ym z) z (wY (yf fo68_2 z) z (wY (yl ty26 z z (t.cell 2 _ z)) z ?_))))
      obtain ⟨b5, aR, h⟩ := bnd h
      refine WL.call (vals := [vu a.V]) kok65 z z (c_wire_Var aR) ?_
      rintro ab aS ⟨_, rfl, aT, b6⟩
      obtain ⟨b7, co, ai, I⟩ := adoptE aa (fun k => if ob ab = some k then 13 else 1) aT
      have aU : OwnSl 13 Rep.b 5 b7 aS ab b5 := RowF.adopt 13 Flat.b b6 ai (fun k hk => if_pos hk)
      obtain ⟨aW, au, h⟩ := bnd h
      have aX := E.st I z z z
      refine WL.append (by decide) ty45 ty5 z (by decide) z z aX aU.src au z ?_
      intro b8 cV cI av aY
      refine wY (ya z) z (nl (At.inBlock ?_))
      obtain ⟨b9, ax, aZ⟩ := OwnSl.rlb 1001 rfl aY
      exact At.join (σ := (List UInt8 × Own × Value)) (aW, b9, b8) ⟨some1 h, (tr_ (su_ I z) (tr_ (su_ av z) (su_ ax z))), aZ⟩ (.cons z (.cons z (.cons z (.cons z .nil))))
     ·refine WC.condF' z F (sq (rg (wY (Y.eql_i z z) z ?_)))
      obtain ⟨cW, a1, h⟩ := lt1 h
      refine WL.yE (ya z) (congrArg vB a1.symm) z (nl (th ?_))
      rcases cnd h with ⟨G, h⟩ | ⟨G, h⟩
      ·refine WC.condT' z G (rg (wY (ym z) z (wY (yf fo68_2 z) z (wY (yl ty26 z z (t.cell 2 _ z)) z ?_))))
       obtain ⟨ca, a2, h⟩ := bnd h
       refine WL.call (vals := [vu a.V]) kok66 z z (c_wire_eight a2) ?_
       rintro ac a3 ⟨_, rfl, a4, cb⟩
       obtain ⟨cc, cq, aj, J⟩ := adoptE aa (fun k => if ob ac = some k then 14 else 1) a4
       have a5 : OwnSl 14 Rep.b 5 cc a3 ac ca := RowF.adopt 14 Flat.b cb aj (fun k hk => if_pos hk)
       obtain ⟨a6, ay, h⟩ := bnd h
       have a7 := E.st J z z z
       refine WL.append (by decide) ty45 ty5 z (by decide) z z a7 a5.src ay z ?_
       intro cd cX cJ az a8
       refine wY (ya z) z (nl (At.inBlock ?_))
       obtain ⟨ce, aA, a9⟩ := OwnSl.rlb 1001 rfl a8
       exact At.join (σ := (List UInt8 × Own × Value)) (a6, ce, cd) ⟨some1 h, (tr_ (su_ J z) (tr_ (su_ az z) (su_ aA z))), a9⟩ (.cons z (.cons z (.cons z (.cons z .nil))))
      ·refine WC.condF' z G (sq (rg (wY (Y.eql_i z z) z ?_)))
       obtain ⟨cY, ba, h⟩ := lt1 h
       refine WL.yE (ya z) (congrArg vB ba.symm) z (nl (th ?_))
       rcases cnd h with ⟨H, h⟩ | ⟨H, h⟩
       ·refine WC.condT' z H (sq (rg (wY (ym z) z (wY (yf fo68_3 z) z (wY (yl ty45 z z (t.cell 3 _ z)) z ?_)))))
        have ad := ((ap.i e z z).i r z z).i D z z
        refine wY (Y.len ty45 z ad) z (wY (Y.conv_iu ty3.u ty26.u z) z ?_)
        obtain ⟨cf, bd, h⟩ := bnd h
        refine WL.call (vals := [vu (toU64 (a.B.length : Int))]) kok65 z z (c_wire_Var bd) ?_
        rintro ae bf ⟨_, rfl, bg, cg⟩
        obtain ⟨ch, cr, ak, j⟩ := adoptE aa (fun k => if ob ae = some k then 15 else 1) bg
        have bh : OwnSl 15 Rep.b 5 ch bf ae cf := RowF.adopt 15 Flat.b cg ak (fun k hk => if_pos hk)
        obtain ⟨cK, aC, h⟩ := bnd h
        have bi := E.st j z z z
        refine WL.append (by decide) ty45 ty5 z (by decide) z z bi bh.src aC z ?_
        intro cZ c0 cL C bj
        refine wY (ya z) z (nl (th (rg (wY (ym z) z (wY (yf fo68_3 z) z ?_)))))
        have bl := (t.st j z).st C z
        refine wY (yl ty45 z z (bl.cell 3 _ z)) z ?_
        obtain ⟨bm, aD, h⟩ := bnd h
        have bo := (ad.i j z z).i C z z
        refine WL.append (by decide) ty45 ty5 z (by decide) z z bj (Sl.src bo) aD z ?_
        intro ci c1 cM aE bp
        refine wY (ya z) z (nl (At.inBlock ?_))
        obtain ⟨cj, aF, bq⟩ := OwnSl.rlb 1001 rfl bp
        exact At.join (σ := (List UInt8 × Own × Value)) (bm, cj, ci) ⟨some1 h, (tr_ (su_ j z) (tr_ (su_ C z) (tr_ (su_ aE z) (su_ aF z)))), bq⟩ (.cons z (.cons z (.cons z (.cons z .nil))))
       ·refine WC.condF' z H (sk (At.inBlock ?_))
        obtain ⟨ck, aG, br⟩ := OwnSl.rlb 1001 rfl E
        exact At.join (σ := (List UInt8 × Own × Value)) (bX, ck, cE) ⟨some1 h, (su_ aG z), br⟩ (.cons z (.cons z (.cons z (.cons z .nil))))
    ·rintro ⟨bs, c2, bB⟩ cN ⟨rfl, K, aH⟩
     replace h := aP
     try dsimp only at h K aH
     refine (show At _ _ _ [(4, bB), (8, v0), (9, vi (a0.length : Int)), (10, vi U)] _ from ?_)
     refine At.inBlock (th (rg (wY (Y.add_i z z) z (wY (ym z) z (nl ?_)))))
     obtain ⟨cl, aI, bt⟩ := OwnSl.rlb 1002 rfl aH
     exact At.round (bs, w64 (U + 1), cl, bB) ct (Nat.lt_succ_self _) ⟨next1 h M, (tr_ (su_ d z) (tr_ (su_ l z) (tr_ (su_ o z) (tr_ (su_ e z) (tr_ (su_ r z) (tr_ (su_ D z) (tr_ (su_ K z) (su_ aI z)))))))), bt⟩ (.cons z (.cons z (.cons z (.cons z .nil))))
  ·refine WC.condF' z P (WC.exit (At.thenX (At.loopX ?_)))
   obtain ⟨cm, aJ, bu⟩ := OwnSl.rlb 1003 rfl L
   exact At.hitB (σ := (List UInt8 × Own × Value)) (aL, cm, bz) ⟨brk1 h M, (tr_ (su_ d z) (su_ aJ z)), bu⟩ (.cons z .nil)
 ·rintro ⟨cO, cF, bC⟩ cn ⟨rfl, af, aK⟩
  replace h := flowK_go am
  try dsimp only at h af aK
  refine (show At _ _ _ [(4, bC)] _ from ?_)
  refine At.inBlockHit (th (sq (rg (wY (ym z) z (wY (ya z) z (wY (ya z) z (nl (th (rt ?_)))))))))
  obtain ⟨rfl, rfl⟩ := tup2 h
  have ah : Stp [11, 1001, 1002] (Lg.O0 A) w cF cn := (su_ af z)
  exact At.res (.inl z) z (.tmp z (.tmp z .nil)) ⟨bC, z, (se_ ah z z), (OwnSl.outF aK ah low0 z)⟩
theorem c_otlp_sub {A : Nat → Prop} {a0 : Int} {a1 : List api_Fld} {v1 : Value} {w : World} (hs1 : Sl rep_api_Fld w A v1 a1) {r0 : api_Fld} (h : otlp_sub a0 a1 = some r0) : Rets Try.prog 30 [vi a0, v1] w (fun v w' => ∃ (o : Value), v = ag [vi r0.Num, vi r0.Type_, vu r0.V, o] ∧ Ext w w' ∧ RowF Rep.b 5 w w' o r0.B) := by
 unfold otlp_sub at h
 refine Rets.enter Try.func30 z z ?_
 have F : Sl rep_api_Fld w (imm (Lg.O0 A)) v1 a1 := (Sl.start hs1)
 refine (show WC _ _ _ _ [(0, vi a0), (1, v1)] _ from ?_)
 refine sq (rg (WL.alloc (O := (Lg.O0 A)) 11 [vi 0, vi 0, vu 0, sn] ty68 z z ?_))
 intro ab T Z e G
 refine nl (th (sq (rg (wY (ym z) z ?_))))
 have H := F.i e z z
 obtain ⟨⟨U, ac⟩, I, h⟩ := bnd h
 refine WL.call (vals := [v1]) kok29 z z (c_wire_Encode (A := fun _ => True) (Sl.all H) I) ?_
 rintro aa J ⟨D, rfl, K, W⟩
 obtain ⟨E, X, r, j⟩ := adoptE T (fun k => if ob D = some k then 12 else 1) K
 have t : OwnSl 12 Rep.b 5 E J D U := RowF.adopt 12 Flat.b W r (fun k hk => if_pos hk)
 refine wY (ym z) z (wY (yx z z) z (wY (yx z z) z (wY (ya z) z (wY (ya z) z (nl (th (sq (rg (wY (ym z) z ?_)))))))))
 refine wY (ym z) z ?_
 have L := h
 obtain ⟨p31, a, d, rfl⟩ := t.shape
 have h := L
 refine wY (yb (vals := [(0, vi a0), (1, vi 2), (3, (vl p31 a d))]) (cells := [vi a0, vi 2, vu 0, (vl p31 a d)]) (fe_ z) (by kernel_rfl)) z ?_
 have M := G.st j z
 refine WL.store (v := ag [vi a0, vi 2, vu 0, (vl p31 a d)]) (cells' := [vi a0, vi 2, vu 0, (vl p31 a d)]) ty68 z z M z (le_ z) z z ?_
 intro P l Q
 refine nl (th (rt ?_))
 obtain rfl := some1 h
 have C : Stp [11] (Lg.O0 A) w E P := (tr_ (su_ e z) (tr_ (su_ j z) (su_ l z)))
 have S := t.st l z z z
 exact At.res (.inl z) z (.cell z (Q.runAg 0 [vi a0, vi 2, vu 0, (vl p31 a d)] ty68 z z z) .nil) ⟨(vl p31 a d), z, (se_ C z z), (OwnSl.outF S C low0 z)⟩
theorem c_otlp_num {a0 : Int} {a1 : UInt64} {w : World} {r0 : api_Fld} (h : otlp_num a0 a1 = some r0) : Rets Try.prog 61 [vi a0, vu a1] w (fun v w' => ∃ (a : Value), v = ag [vi r0.Num, vi r0.Type_, vu r0.V, a] ∧ Ext w w' ∧ Sl Rep.b w' (fun k => w.heap.size ≤ k) a r0.B) := by
 unfold otlp_num at h
 refine Rets.enter Try.func61 z z ?_
 refine (show WC _ _ _ _ [(0, vi a0), (1, vu a1)] _ from ?_)
 refine sq (rg (WL.alloc (O := (Lg.O0 (fun _ => False))) 11 [vi 0, vi 0, vu 0, sn] ty68 z z ?_))
 intro D t C d j
 refine nl (th (sq (rg (wY (ym z) z (wY (ym z) z (wY (yb (vals := [(0, vi a0), (1, vi 0), (2, vu a1)]) (cells := [vi a0, vi 0, vu a1, sn]) (fe_ z) (by kernel_rfl)) z (WL.store (v := ag [vi a0, vi 0, vu a1, sn]) (cells' := [vi a0, vi 0, vu a1, sn]) ty68 z z j z (le_ z) z z ?_)))))))
 intro l e o
 refine nl (th (rt ?_))
 obtain rfl := some1 h
 have r : Stp [11] (Lg.O0 (fun _ => False)) w t l := (tr_ (su_ d z) (su_ e z))
 exact At.res (.inl z) z (.cell z (o.runAg 0 [vi a0, vi 0, vu a1, sn] ty68 z z z) .nil) ⟨sn, z, (se_ r z z), (Or.inl ⟨z, z⟩)⟩
theorem c_otlp_text {a0 : Int} {a1 : List UInt8} {w : World} {r0 : api_Fld} (h : otlp_text a0 a1 = some r0) : Rets Try.prog 62 [vi a0, vs a1] w (fun v w' => ∃ (o : Value), v = ag [vi r0.Num, vi r0.Type_, vu r0.V, o] ∧ Ext w w' ∧ Sl Rep.b w' (fun k => w.heap.size ≤ k) o r0.B) := by
 unfold otlp_text at h
 refine Rets.enter Try.func62 z z ?_
 refine (show WC _ _ _ _ [(0, vi a0), (1, vs a1)] _ from ?_)
 refine sq (rg (WL.alloc (O := (Lg.O0 (fun _ => False))) 11 [vi 0, vi 0, vu 0, sn] ty68 z z ?_))
 intro P J L C D
 refine nl (th (sq (rg (wY (ym z) z (wY (ym z) z (WL.s2b (O := J) ty9 ty45 ty5 z z ?_))))))
 intro Q K M j r
 have E := h
 obtain ⟨a, d, e, rfl⟩ := r.shape
 have h := E
 refine wY (yb (vals := [(0, vi a0), (1, vi 2), (3, (vl a d e))]) (cells := [vi a0, vi 2, vu 0, (vl a d e)]) (fe_ z) (by kernel_rfl)) z ?_
 have F := D.st j z
 refine WL.store (v := ag [vi a0, vi 2, vu 0, (vl a d e)]) (cells' := [vi a0, vi 2, vu 0, (vl a d e)]) ty68 z z F z (le_ z) z z ?_
 intro G l H
 refine nl (th (rt ?_))
 obtain rfl := some1 h
 have t : Stp [11] (Lg.O0 (fun _ => False)) w K G := (tr_ (su_ C z) (tr_ (su_ j z) (su_ l z)))
 have I := r.f l z
 exact At.res (.inl z) z (.cell z (H.runAg 0 [vi a0, vi 2, vu 0, (vl a d e)] ty68 z z z) .nil) ⟨(vl a d e), z, (se_ t z z), (Sl.outF I t low0)⟩
theorem c_otlp_fix {a0 : Int} {a1 : UInt64} {w : World} {r0 : api_Fld} (h : otlp_fix a0 a1 = some r0) : Rets Try.prog 86 [vi a0, vu a1] w (fun v w' => ∃ (a : Value), v = ag [vi r0.Num, vi r0.Type_, vu r0.V, a] ∧ Ext w w' ∧ Sl Rep.b w' (fun k => w.heap.size ≤ k) a r0.B) := by
 unfold otlp_fix at h
 refine Rets.enter Try.func86 z z ?_
 refine (show WC _ _ _ _ [(0, vi a0), (1, vu a1)] _ from ?_)
 refine sq (rg (WL.alloc (O := (Lg.O0 (fun _ => False))) 11 [vi 0, vi 0, vu 0, sn] ty68 z z ?_))
 intro D t C d j
 refine nl (th (sq (rg (wY (ym z) z (wY (ym z) z (wY (yb (vals := [(0, vi a0), (1, vi 1), (2, vu a1)]) (cells := [vi a0, vi 1, vu a1, sn]) (fe_ z) (by kernel_rfl)) z (WL.store (v := ag [vi a0, vi 1, vu a1, sn]) (cells' := [vi a0, vi 1, vu a1, sn]) ty68 z z j z (le_ z) z z ?_)))))))
 intro l e o
 refine nl (th (rt ?_))
 obtain rfl := some1 h
 have r : Stp [11] (Lg.O0 (fun _ => False)) w t l := (tr_ (su_ d z) (su_ e z))
 exact At.res (.inl z) z (.cell z (o.runAg 0 [vi a0, vi 1, vu a1, sn] ty68 z z z) .nil) ⟨sn, z, (se_ r z z), (Or.inl ⟨z, z⟩)⟩
theorem c_slices_Clone_api_Pair_api_Pair {A : Nat → Prop} {a0 : List api_Pair} {v0 : Value} {w : World} (hs0 : Sl rep_api_Pair w A v0 a0) {r0 : List api_Pair} (h : slices_Clone_api_Pair_api_Pair a0 = some r0) : Rets Try.prog 45 [v0] w (fun v w' => ∃ (u0 : Value), v = u0 ∧ Ext w w' ∧ RowF rep_api_Pair 65 w w' u0 r0) := by
  unfold slices_Clone_api_Pair_api_Pair at h
  refine Rets.enter Try.func45 z z ?_
  refine (show WC _ _ _ _ [(0, v0)] _ from ?_)
  refine sq (rg (wY (ya z) z (nl (th ?_))))
  refine sq (sq (rg ?_))
  refine wY (ym z) z ?_
  rcases hs0.nilOr with ⟨rfl, rfl⟩ | ⟨q, n, c, rfl⟩
  · refine wY (Y.slnil (p := none) (n := 0) (c := 0) ty25.u z z) z (nl (th ?_))
    refine WC.condT z (sq (rg (wY (ya z) z (nl (th (rt (At.thenR ?_)))))))
    have : r0 = [] := by simpa [app] using h.symm
    subst this
    exact At.res (.inl z) z (.tmp z .nil) ⟨_, z, Ext.refl w, RowF.nil⟩
  · refine wY (Y.slnil (p := some _) ty25.u z z) z (nl (th ?_))
    refine WC.condF z (sk (th ?_))
    refine sq (rg ?_)
    have hs := hs0
    refine WL.buildSlice (O := Lg.O0 A) (R := rep_api_Pair) (vals := []) 11 [] (xs := []) (by decide) ty25 ty65 (by decide) (by decide) (fe_ z) (by kernel_rfl) z z z ?_
    intro v C D a j
    refine wY (ym z) z ?_
    have l := (Sl.start hs).i a z z
    refine WL.append (by decide) ty25 ty65 z (by decide) z z j l.src h z ?_
    intro E r t e o
    refine wY (ya z) z (nl (th (rt ?_)))
    have d : Stp [11] (Lg.O0 A) w r t := (tr_ (su_ a z) e)
    exact At.res (.inl z) z (.tmp z .nil) ⟨_, z, se_ d z z, OwnSl.outF o d low0 z⟩
theorem c_cmp_isNaN_string {a0 : List UInt8} {w : World} {r0 : Bool} (h : cmp_isNaN_string a0 = some r0) : Rets Try.prog 120 [vs a0] w (fun v w' => v = vB r0 ∧ Ext w w') := by
 unfold cmp_isNaN_string at h
 refine Rets.enter Try.func120 z z ?_
 refine (show WC _ _ _ _ [(0, vs a0)] _ from ?_)
 refine sq (rg (wY (ya z) z (nl (th (sq (rg (wY (ym z) z (wY (ym z) z (wY (Y.neq_s z z) z ?_)))))))))
 obtain ⟨e, a, h⟩ := lt1 h
 refine WL.yE (ya z) (congrArg vB a.symm) z (nl (th (rt ?_)))
 obtain rfl := some1 h
 have d : Stp [] (Lg.O0 (fun _ => False)) w (Lg.O0 (fun _ => False)) w := (sr_ _ _ _)
 exact At.res (.inl z) z (.tmp z .nil) ⟨z, (se_ d z z)⟩
theorem c_cmp_Compare_string {a0 : List UInt8} {a1 : List UInt8} {w : World} {r0 : Int} (h : cmp_Compare_string a0 a1 = some r0) : Rets Try.prog 107 [vs a0, vs a1] w (fun v w' => v = vi r0 ∧ Ext w w') := by
 unfold cmp_Compare_string at h
 refine Rets.enter Try.func107 z z ?_
 refine (show WC _ _ _ _ [(0, vs a0), (1, vs a1)] _ from ?_)
 refine sq (rg (wY (ya z) z (nl (th (sq (rg (wY (ym z) z ?_)))))))
 obtain ⟨aa, D, h⟩ := bnd h
 refine WL.call (vals := [vs a0]) kok120 z z (c_cmp_isNaN_string D) ?_
 rintro W X ⟨rfl, E⟩
 obtain ⟨P, Q, S, a⟩ := adoptE (Lg.O0 (fun _ => False)) (fun k => 1) E
 refine wY (ya z) z (nl (th (sq (rg (wY (ym z) z ?_)))))
 obtain ⟨ab, F, h⟩ := bnd h
 refine WL.call (vals := [vs a1]) kok120 z z (c_cmp_isNaN_string F) ?_
 rintro Z e ⟨rfl, G⟩
 obtain ⟨j, T, U, d⟩ := adoptE P (fun k => 1) G
 refine wY (ya z) z (nl (th (sq (sq (rg (wY (ym z) z (nl (th ?_))))))))
 rcases cnd h with ⟨l, h⟩ | ⟨l, h⟩
 ·refine WC.condT' z l (sq (sq (rg (wY (ym z) z (nl (th ?_))))))
  rcases cnd h with ⟨o, h⟩ | ⟨o, h⟩
  ·refine WC.condT' z o (sq (rg (wY (ya z) z (nl (th (rt (At.thenR (At.thenR ?_))))))))
   obtain rfl := some1 h
   have H : Stp [] (Lg.O0 (fun _ => False)) w j e := (tr_ (su_ a z) (su_ d z))
   exact At.res (.inl z) z (.tmp z .nil) ⟨z, (se_ H z z)⟩
  ·refine WC.condF' z o (sk (th (sq (rg (wY (ya z) z (nl (th (rt (At.thenR ?_)))))))))
   obtain rfl := some1 h
   have I : Stp [] (Lg.O0 (fun _ => False)) w j e := (tr_ (su_ a z) (su_ d z))
   exact At.res (.inl z) z (.tmp z .nil) ⟨z, (se_ I z z)⟩
 ·refine WC.condF' z l (sk (th (sq (sq (rg (wY (ym z) z (nl (th ?_))))))))
  rcases cnd h with ⟨r, h⟩ | ⟨r, h⟩
  ·refine WC.condT' z r (sq (rg (wY (ya z) z (nl (th (rt (At.thenR ?_)))))))
   obtain rfl := some1 h
   have J : Stp [] (Lg.O0 (fun _ => False)) w j e := (tr_ (su_ a z) (su_ d z))
   exact At.res (.inl z) z (.tmp z .nil) ⟨z, (se_ J z z)⟩
  ·refine WC.condF' z r (sk (th (sq (sq (rg (wY (ym z) z (wY (ym z) z (wY (Y.lss_s z z) z (nl ?_)))))))))
   refine th ?_
   rcases cnd h with ⟨t, h⟩ | ⟨t, h⟩
   ·refine WC.condT' z t (sq (rg (wY (ya z) z (nl (th (rt (At.thenR ?_)))))))
    obtain rfl := some1 h
    have K : Stp [] (Lg.O0 (fun _ => False)) w j e := (tr_ (su_ a z) (su_ d z))
    exact At.res (.inl z) z (.tmp z .nil) ⟨z, (se_ K z z)⟩
   ·refine WC.condF' z t (sk (th (sq (sq (rg (wY (ym z) z (wY (ym z) z (wY (Y.gtr_s z z) z (nl ?_)))))))))
    refine th ?_
    rcases cnd h with ⟨C, h⟩ | ⟨C, h⟩
    ·refine WC.condT' z C (sq (rg (wY (ya z) z (nl (th (rt (At.thenR ?_)))))))
     obtain rfl := some1 h
     have L : Stp [] (Lg.O0 (fun _ => False)) w j e := (tr_ (su_ a z) (su_ d z))
     exact At.res (.inl z) z (.tmp z .nil) ⟨z, (se_ L z z)⟩
    ·refine WC.condF' z C (sk (th (sq (rg (wY (ya z) z (nl (th (rt ?_))))))))
     obtain rfl := some1 h
     have M : Stp [] (Lg.O0 (fun _ => False)) w j e := (tr_ (su_ a z) (su_ d z))
     exact At.res (.inl z) z (.tmp z .nil) ⟨z, (se_ M z z)⟩
theorem cN_slices_symMergeCmpFunc_api_Pair (kf0 : Nat) : ∀ {a0 : List api_Pair} {v0 : Value} {a1 : Int} {a2 : Int} {a3 : Int} {w : World} (hs0 : Row rep_api_Pair 65 w v0 a0) {q0 : List api_Pair} (h : slices_symMergeCmpFunc_api_PairN kf0 a0 a1 a2 a3 = some q0), Rets Try.prog 126 [v0, vi a1, vi a2, vi a3, Value.func (.func 106) (List.toArray []) (List.toArray [])] w (fun v w' => v = tp [] ∧ Mod (fun k => ob v0 = some k) w w' ∧ Row rep_api_Pair 65 w' v0 q0) := by
  induction kf0 with
  | zero => intro a0 v0 a1 a2 a3 w hs0 q0 h; cases h
  | succ kf ih =>
  intro a0 v0 a1 a2 a3 w hs0 q0 h
  obtain ⟨rec_, hrec⟩ : ∃ q, q = slices_symMergeCmpFunc_api_PairN kf := ⟨_, rfl⟩
  rw [← hrec] at ih
  have h : slices_symMergeCmpFunc_api_PairB (slices_symMergeCmpFunc_api_PairN kf) a0 a1 a2 a3 = some q0 := h
  rw [← hrec] at h
  unfold slices_symMergeCmpFunc_api_PairB at h
  refine Rets.enter Try.func126 rfl rfl ?_
  have ho11 : OwnSl 3 rep_api_Pair 65 (Lg.OV v0 3 (Lg.O0 (fun _ => False))) w v0 a0 := Row.start flat_api_Pair hs0 (fun k hk => (if_pos hk))
  refine (show WC _ _ _ _ [(0, v0), (1, vi a1), (2, vi a2), (3, vi a3), (4, Value.func (.func 106) (List.toArray []) (List.toArray []))] _ from ?_)
  refine sq (sq (rg (wY (ym rfl) rfl (wY (ym rfl) rfl (wY (Y.sub_i rfl rfl) rfl (wY (Y.eql_i rfl rfl) rfl (nl (th ?_))))))))
  rcases cnd h with ⟨hc12, h⟩ | ⟨hc12, h⟩
  ·refine WC.condT' rfl hc12 (sq (rg (wY (ym rfl) rfl (wY (ya rfl) rfl (nl (th (sq (rg (wY (ym rfl) rfl ?_)))))))))
   refine wY (ya rfl) rfl (nl (th (sq ?_)))
   obtain ⟨p17, h, hk18⟩ := bnd h
   refine WC.join (σ := (Int × Own)) (fun x w' => x.1 = p17 ∧ Stp [] (Lg.OV v0 3 (Lg.O0 (fun _ => False))) w x.2 w') (fun x => [(0, v0), (1, vi a1), (10, vi x.1)]) ?_ ?_
   ·refine WC.block ?_
    obtain ⟨p28, h, hk30⟩ := flow1 h
    obtain ⟨k29, h⟩ := loop_some h
    refine WC.joinB 0 (σ := (Int × Own)) (fun x w' => p28 = .go x.1 ∧ Stp [] (Lg.OV v0 3 (Lg.O0 (fun _ => False))) w x.2 w') (fun x => [(0, v0), (1, vi a1), (10, vi x.1)]) ?_ ?_
    ·refine WC.loop (σ := (Int × Int × Own)) (fun x k w' => loopN k (slices_symMergeCmpFunc_api_Pair_lp1 a0 a1) (x.1, x.2.1) = some p28 ∧ Stp [] (Lg.OV v0 3 (Lg.O0 (fun _ => False))) w x.2.2 w') (fun x => [(0, v0), (1, vi a1), (4, Value.func (.func 106) (List.toArray []) (List.toArray [])), (10, vi x.1), (11, vi x.2.1)]) (a2, a3, (Lg.OV v0 3 (Lg.O0 (fun _ => False)))) k29 (.cons rfl (.cons rfl (.cons rfl (.cons rfl (.cons rfl .nil))))) ⟨h, (sr_ _ _ _)⟩ ?_
     rintro ⟨i19, j20, O21⟩ k29 wd22 ⟨h, hst23⟩
     obtain ⟨j31, q32, rfl, h, hn33⟩ := rnd1 h
     unfold slices_symMergeCmpFunc_api_Pair_lp1 at h
     try dsimp only at h hst23
     refine (show WC _ _ _ _ [(0, v0), (1, vi a1), (4, Value.func (.func 106) (List.toArray []) (List.toArray [])), (10, vi i19), (11, vi j20)] _ from ?_)
     refine sq (sq (rg (wY (ym rfl) rfl (wY (ym rfl) rfl (wY (Y.lss_i rfl rfl) rfl (nl (th ?_)))))))
     rcases cnd h with ⟨hc34, h⟩ | ⟨hc34, h⟩
     ·refine WC.condT' rfl hc34 (sk (th ?_))
      obtain ⟨p40, h, hk41⟩ := bnd h
      refine WC.join (σ := (Int × Int × Own)) (fun x w' => (x.1, x.2.1) = p40 ∧ Stp [] O21 wd22 x.2.2 w') (fun x => [(0, v0), (1, vi a1), (4, Value.func (.func 106) (List.toArray []) (List.toArray [])), (10, vi x.1), (11, vi x.2.1)]) ?_ ?_
      ·refine WC.block (sq (rg (wY (ym rfl) rfl (wY (ym rfl) rfl (wY (Y.add_i rfl rfl) rfl (wY (Y.conv_iu ty3.u ty61.u rfl) rfl (wY (Y.shr_uu (m := 1) rfl rfl) rfl (wY (Y.conv_ui ty61.u ty3.u rfl) rfl ?_))))))))
       obtain ⟨hv42, hhv42, h⟩ := lt1 h
       refine WL.yE (ya rfl) (congrArg vi hhv42.symm) rfl (nl (th (sq (WC.draw 9 O21 fmix (by kernel_rfl) ?_))))
       intro wd43 hst44
       refine WS.y (ym rfl) rfl (WS.y (ym rfl) rfl (WS.y (ym rfl) rfl ?_))
       obtain ⟨e45, he45, h⟩ := bnd h
       have hf54 := ho11.st hst23 rfl rfl rfl
       have hf55 := hf54.st hst44 rfl rfl rfl
       obtain ⟨b46, cap53, cs52, hv47, hi48, hl49, hc50, hok51⟩ := OwnSl.at hf55 he45
       obtain ⟨_, _, rfl, rfl, rfl⟩ := hok51
       replace hc50 : CellsAt _ _ _ [vs e45.Key, vs e45.Val] := hc50
       have hca56 := CAt.own hf55 hv47 hc50
       refine WS.y (Y.indexAddr ty25 ty65 rfl hv47 rfl hi48 hl49) rfl (WS.y (yL ty65 rfl rfl hca56.at_ rfl) rfl (WS.y (ym rfl) rfl (WS.y (ym rfl) rfl ?_)))
       obtain ⟨e57, he57, h⟩ := bnd h
       obtain ⟨b58, cap65, cs64, hv59, hi60, hl61, hc62, hok63⟩ := OwnSl.at hf55 he57
       obtain ⟨_, _, rfl, rfl, rfl⟩ := hok63
       replace hc62 : CellsAt _ _ _ [vs e57.Key, vs e57.Val] := hc62
       have hca66 := CAt.own hf55 hv59 hc62
       refine WS.y (Y.indexAddr ty25 ty65 rfl hv59 rfl hi60 hl61) rfl (WS.y (yL ty65 rfl rfl hca66.at_ rfl) rfl (WS.tail ?_))
       obtain ⟨p71, h, hk72⟩ := bnd h
       refine WL.callV (fv := []) (cv := []) (vals := [ag [vs e45.Key, vs e45.Val], ag [vs e57.Key, vs e57.Val]]) (σ := (Int × Own)) (fun x w' => x.1 = p71 ∧ Stp [] O21 wd43 x.2 w') (fun x => vi x.1) kok106 rfl rfl rfl ?_ ?_
       ·refine Rets.enter Try.func106 rfl rfl ?_
        refine (show WC _ _ _ _ [(0, ag [vs e45.Key, vs e45.Val]), (1, ag [vs e57.Key, vs e57.Val])] _ from ?_)
        refine sq (rg (WL.box (O := O21) 11 [vs e45.Key, vs e45.Val] rfl rfl rfl ?_))
        intro p74 O75 wd76 hst77 hb73
        refine WL.box (O := O75) 12 [vs e57.Key, vs e57.Val] rfl rfl rfl ?_
        intro p79 O80 wd81 hst82 hb78
        refine wY (ya rfl) rfl (nl (th (sq (rg (wY (yf fo65_0 rfl) rfl ?_)))))
        have hf83 := hb73.st hst82 rfl
        refine wY (yl ty9 rfl rfl (hf83.cell 0 _ rfl)) rfl (wY (yf fo65_0 rfl) rfl (wY (yl ty9 rfl rfl (hb78.cell 0 _ rfl)) rfl ?_))
        obtain ⟨r84, hp85, h⟩ := bnd h
        refine WL.call (vals := [vs e45.Key, vs e57.Key]) kok107 rfl rfl (c_cmp_Compare_string hp85) ?_
        rintro vr88 wd87 ⟨rfl, hm86⟩
        obtain ⟨O89, hold90, hnew91, hst92⟩ := adoptE O80 (fun k => 1) hm86
        refine wY (ya rfl) rfl (nl (th (rt ?_)))
        exact At.res (.inl rfl) rfl (.tmp rfl .nil) ⟨(r84, O89), ⟨some1 h, (tr_ (su_ hst77 rfl) (tr_ (su_ hst82 rfl) (su_ hst92 rfl)))⟩, rfl⟩
       ·rintro ⟨x67, O68⟩ wd69 ⟨rfl, hst70⟩
        replace h := hk72
        try dsimp only at h hst70
        refine (show WL _ _ _ _ _ ((49, vi x67) :: _) _ from ?_)
        refine wY (Y.lss_i rfl rfl) rfl (nl (th ?_))
        rcases cnd h with ⟨hc93, h⟩ | ⟨hc93, h⟩
        ·refine WC.condT' rfl hc93 (rg (wY (ym rfl) rfl (wY (Y.add_i rfl rfl) rfl ?_)))
         obtain ⟨i94, hi94, h⟩ := lt1 h
         refine WL.yE (ya rfl) (congrArg vi hi94.symm) rfl (nl (At.inBlock ?_))
         exact At.join (σ := (Int × Int × Own)) (i94, j20, O68) ⟨some1 h, (tr_ (su_ hst44 rfl) (su_ hst70 rfl))⟩ (.cons rfl (.cons rfl (.cons rfl (.cons rfl (.cons rfl .nil)))))
        ·refine WC.condF' rfl hc93 (rg (wY (ym rfl) rfl (wY (ya rfl) rfl (nl (At.inBlock ?_)))))
         exact At.join (σ := (Int × Int × Own)) (i19, hv42, O68) ⟨some1 h, (tr_ (su_ hst44 rfl) (su_ hst70 rfl))⟩ (.cons rfl (.cons rfl (.cons rfl (.cons rfl (.cons rfl .nil)))))
      ·rintro ⟨i35, j36, O37⟩ wd38 ⟨rfl, hst39⟩
       replace h := hk41
       try dsimp only at h hst39
       refine (show At _ _ _ [(0, v0), (1, vi a1), (4, Value.func (.func 106) (List.toArray []) (List.toArray [])), (10, vi i35), (11, vi j36)] _ from ?_)
       exact At.round (i35, j36, O37) j31 (Nat.lt_succ_self _) ⟨next1 h hn33, (tr_ (su_ hst23 rfl) (su_ hst39 rfl))⟩ (.cons rfl (.cons rfl (.cons rfl (.cons rfl (.cons rfl .nil)))))
     ·refine WC.condF' rfl hc34 (WC.exit (At.thenX (At.loopX ?_)))
      exact At.hitB (σ := (Int × Own)) (i19, O21) ⟨brk1 h hn33, (su_ hst23 rfl)⟩ (.cons rfl (.cons rfl (.cons rfl .nil)))
    ·rintro ⟨i24, O25⟩ wd26 ⟨rfl, hst27⟩
     replace h := flowK_go hk30
     try dsimp only at h hst27
     refine (show At _ _ _ [(0, v0), (1, vi a1), (10, vi i24)] _ from ?_)
     refine At.inBlockHit ?_
     exact At.join (σ := (Int × Own)) (i24, O25) ⟨some1 h, (su_ hst27 rfl)⟩ (.cons rfl (.cons rfl (.cons rfl .nil)))
   ·rintro ⟨i13, O14⟩ wd15 ⟨rfl, hst16⟩
    replace h := hk18
    try dsimp only at h hst16
    refine (show At _ _ _ [(0, v0), (1, vi a1), (10, vi i13)] _ from ?_)
    refine th (sq (sq (rg (wY (ym rfl) rfl (wY (ya rfl) rfl (nl (th (WC.block ?_))))))))
    obtain ⟨p108, h, hk110⟩ := flow1 h
    obtain ⟨k109, h⟩ := loop_some h
    refine WC.joinB 2 (σ := (List api_Pair × Own)) (fun x w' => p108 = .go x.1 ∧ Stp [3] O14 wd15 x.2 w' ∧ OwnSl 3 rep_api_Pair 65 x.2 w' v0 x.1) (fun x => []) ?_ ?_
    ·have hf111 := ho11.st hst16 rfl rfl rfl
     refine WC.loop (σ := (List api_Pair × Int × Own)) (fun x k w' => loopN k (slices_symMergeCmpFunc_api_Pair_lp2 i13) (x.1, x.2.1) = some p108 ∧ Stp [3] O14 wd15 x.2.2 w' ∧ OwnSl 3 rep_api_Pair 65 x.2.2 w' v0 x.1) (fun x => [(0, v0), (10, vi i13), (13, vi x.2.1)]) (a0, a1, O14) k109 (.cons rfl (.cons rfl (.cons rfl .nil))) ⟨h, (sr_ _ _ _), hf111⟩ ?_
     rintro ⟨data95, k98, O99⟩ k109 wd100 ⟨h, hst101, hf97⟩
     obtain ⟨j112, q113, rfl, h, hn114⟩ := rnd1 h
     unfold slices_symMergeCmpFunc_api_Pair_lp2 at h
     try dsimp only at h hst101 hf97
     refine (show WC _ _ _ _ [(0, v0), (10, vi i13), (13, vi k98)] _ from ?_)
     refine sq (sq (rg (wY (ym rfl) rfl (wY (ym rfl) rfl (wY (Y.sub_i rfl rfl) rfl (wY (Y.lss_i rfl rfl) rfl (nl (th ?_))))))))
     rcases cnd h with ⟨hc115, h⟩ | ⟨hc115, h⟩
     ·refine WC.condT' rfl hc115 (sk (th (sq (WC.block (WC.drawH [3] [0, 1, 2, 3, 4, 5, 6, 7, 8, 9, 10, 11, 12, 13, 14, 15, 16] O99 18 fmix rfl (by kernel_rfl) ?_)))))
      intro wd116 hst117
      refine WD.y 0 rfl (by kernel_rfl) (fun _ _ _ => ym rfl) rfl (WD.y 1 rfl (by kernel_rfl) (fun _ _ _ => ym rfl) rfl (WD.y 2 rfl (by kernel_rfl) (fun _ _ _ => ym rfl) rfl (WD.y 3 rfl (by kernel_rfl) (fun _ _ _ => ym rfl) rfl (WD.y 4 rfl (by kernel_rfl) (fun _ _ _ => Y.add_i rfl rfl) rfl (WD.y 5 rfl (by kernel_rfl) (fun _ _ _ => ym rfl) rfl (WD.y 6 rfl (by kernel_rfl) (fun _ _ _ => ym rfl) rfl (WD.y 7 rfl (by kernel_rfl) (fun _ _ _ => Y.add_i rfl rfl) rfl ?_)))))))
      obtain ⟨e142, he142, h⟩ := bnd h
      have hf151 := hf97.st hst117 rfl rfl rfl
      obtain ⟨b143, cap150, cs149, hv144, hi145, hl146, hc147, hok148⟩ := OwnSl.at hf151 he142
      obtain ⟨_, _, rfl, rfl, rfl⟩ := hok148
      replace hc147 : CellsAt _ _ _ [vs e142.Key, vs e142.Val] := hc147
      have hca152 := CAt.own hf151 hv144 hc147
      refine WD.y 8 rfl (by kernel_rfl) (fun _ _ _ => Y.indexAddr ty25 ty65 rfl hv144 rfl hi145 hl146) rfl (WD.y 10 rfl (by kernel_rfl) (fun _ _ _ => ym rfl) rfl (WD.y 11 rfl (by kernel_rfl) (fun _ _ _ => ym rfl) rfl ?_))
      obtain ⟨e162, he162, h⟩ := bnd h
      obtain ⟨b163, cap170, cs169, hv164, hi165, hl166, hc167, hok168⟩ := OwnSl.at hf151 he162
      obtain ⟨_, _, rfl, rfl, rfl⟩ := hok168
      replace hc167 : CellsAt _ _ _ [vs e162.Key, vs e162.Val] := hc167
      have hca171 := CAt.own hf151 hv164 hc167
      refine WD.y 12 rfl (by kernel_rfl) (fun _ _ _ => Y.indexAddr ty25 ty65 rfl hv164 rfl hi165 hl166) rfl ?_
      obtain ⟨p175, h, hk176⟩ := bnd h
      refine WD.join (σ := Unit) (f' := 4) [13, 12, 11, 10, 9, 8, 7, 6, 5, 4, 3, 2, 1, 0] (fun x O' w' => () = p175 ∧ wd116 = w' ∧ O99 = O') (fun x => [(0, v0), (10, vi i13), (13, vi k98), (61, v0), (62, vi k98), (63, v0), (65, vi (w64 (k98 + 1))), (70, ag [vs e142.Key, vs e142.Val]), (74, ag [vs e162.Key, vs e162.Val])]) (fun hJ177 => ?_) ?_
      ·refine WD.heavy2 9 13 rfl rfl (by kernel_rfl) ?_ ?_
       ·refine wY (yL ty65 rfl rfl hca152.at_ rfl) rfl (nl (At.dq (sr_ _ _ _) (WD.heavy 13 rfl (by kernel_rfl) (wY (yL ty65 rfl rfl hca171.at_ rfl) rfl (nl (At.dq (sr_ _ _ _) (WD.perm _ [13, 12, 11, 10, 9, 8, 7, 6, 5, 4, 3, 2, 1, 0] (by kernel_rfl) ?_)))))))
        exact hJ177 () _ _ _ ⟨rfl, rfl, rfl⟩ (.cons rfl (.cons rfl (.cons rfl (.cons rfl (.cons rfl (.cons rfl (.cons rfl (.cons rfl (.cons rfl .nil)))))))))
       ·try simp only [Option.bind_assoc] at h
        try simp only [Option.bind_some] at h
        refine wY (yL ty65 rfl rfl hca171.at_ rfl) rfl (nl (At.dq (sr_ _ _ _) (WD.heavy 9 rfl (by kernel_rfl) (wY (yL ty65 rfl rfl hca152.at_ rfl) rfl (nl (At.dq (sr_ _ _ _) (WD.perm _ [13, 12, 11, 10, 9, 8, 7, 6, 5, 4, 3, 2, 1, 0] (by kernel_rfl) ?_)))))))
        exact hJ177 () _ _ _ ⟨rfl, rfl, rfl⟩ (.cons rfl (.cons rfl (.cons rfl (.cons rfl (.cons rfl (.cons rfl (.cons rfl (.cons rfl (.cons rfl .nil)))))))))
      ·rintro _ _ _ ⟨rfl, rfl, rfl⟩
       replace h := hk176
       refine (show WD _ _ _ _ _ _ _ _ [(0, v0), (10, vi i13), (13, vi k98), (61, v0), (62, vi k98), (63, v0), (65, vi (w64 (k98 + 1))), (70, ag [vs e142.Key, vs e142.Val]), (74, ag [vs e162.Key, vs e162.Val])] _ _ from ?_)
       obtain ⟨e178, he178, h⟩ := bnd h
       obtain ⟨b179, cap186, cs185, hv180, hi181, hl182, hc183, hok184⟩ := OwnSl.at hf151 he178
       obtain ⟨_, _, rfl, rfl, rfl⟩ := hok184
       replace hc183 : CellsAt _ _ _ [vs e178.Key, vs e178.Val] := hc183
       have hca187 := CAt.own hf151 hv180 hc183
       refine WD.y 14 rfl (by kernel_rfl) (fun _ _ _ => Y.indexAddr ty25 ty65 rfl hv180 rfl hi181 hl182) rfl (WD.heavy 15 rfl (by kernel_rfl) ?_)
       obtain ⟨xs191, hxs191, h⟩ := bnd h
       refine WL.storeOwn (R := rep_api_Pair) (u := e142) (by decide) ty65 rfl rfl ⟨[vs e142.Key], [vs e142.Val], rfl, rfl, rfl⟩ hf151 hv180 hxs191 ?_
       intro wd192 hst193 ho194
       refine nl (At.dq (su_ hst193 rfl) ?_)
       obtain ⟨e195, he195, h⟩ := bnd h
       obtain ⟨b196, cap203, cs202, hv197, hi198, hl199, hc200, hok201⟩ := OwnSl.at ho194 he195
       obtain ⟨_, _, rfl, rfl, rfl⟩ := hok201
       replace hc200 : CellsAt _ _ _ [vs e195.Key, vs e195.Val] := hc200
       have hca204 := CAt.own ho194 hv197 hc200
       refine WD.y 16 rfl (by kernel_rfl) (fun _ _ _ => Y.indexAddr ty25 ty65 rfl hv197 rfl hi198 hl199) rfl (WD.phase [3] [0, 1, 2, 3, 4, 5, 6, 7, 8, 9, 10, 11, 12, 13, 14, 15, 16, 17] (by kernel_rfl) (by kernel_rfl) (WD.heavy 17 rfl (by kernel_rfl) ?_))
       obtain ⟨xs208, hxs208, h⟩ := bnd h
       refine WL.storeOwn (R := rep_api_Pair) (u := e162) (by decide) ty65 rfl rfl ⟨[vs e162.Key], [vs e162.Val], rfl, rfl, rfl⟩ ho194 hv197 hxs208 ?_
       intro wd209 hst210 ho211
       refine nl (At.dq (su_ hst210 rfl) (WD.done_ (by kernel_rfl) (At.inBlock (th (rg (wY (ym rfl) rfl (wY (Y.add_i rfl rfl) rfl ?_)))))))
       obtain ⟨k212, hk212, h⟩ := lt1 h
       refine WL.yE (ya rfl) (congrArg vi hk212.symm) rfl (nl ?_)
       exact At.round (xs208, k212, O99) j112 (Nat.lt_succ_self _) ⟨next1 h hn114, (tr_ (su_ hst101 rfl) (tr_ (su_ hst117 rfl) (tr_ (su_ hst193 rfl) (su_ hst210 rfl)))), ho211⟩ (.cons rfl (.cons rfl (.cons rfl .nil)))
     ·refine WC.condF' rfl hc115 (WC.exit (At.thenX (At.loopX ?_)))
      exact At.hitB (σ := (List api_Pair × Own)) (data95, O99) ⟨brk1 h hn114, (su_ hst101 rfl), hf97⟩ .nil
    ·rintro ⟨x102, O105⟩ wd106 ⟨rfl, hst107, hf104⟩
     replace h := flowK_go hk110
     try dsimp only at h hst107 hf104
     refine (show At _ _ _ [] _ from ?_)
     refine At.inBlockHit (th (rt (At.thenR ?_)))
     obtain rfl := some1 h
     have hs213 : Stp [3] (Lg.OV v0 3 (Lg.O0 (fun _ => False))) w O105 wd106 := (tr_ (su_ hst16 rfl) (su_ hst107 rfl))
     exact At.res (.inl rfl) rfl .nil ⟨rfl, (Stp.modL hs213 sV1 rfl rfl), hf104.row⟩
  ·refine WC.condF' rfl hc12 (sk (th (sq (sq (rg (wY (ym rfl) rfl (wY (ym rfl) rfl (wY (Y.sub_i rfl rfl) rfl (wY (Y.eql_i rfl rfl) rfl ?_)))))))))
   refine nl (th ?_)
   rcases cnd h with ⟨hc214, h⟩ | ⟨hc214, h⟩
   ·refine WC.condT' rfl hc214 (sq (rg (wY (ym rfl) rfl (wY (ya rfl) rfl (nl (th (sq (rg (wY (ym rfl) rfl ?_)))))))))
    refine wY (ya rfl) rfl (nl (th (sq ?_)))
    obtain ⟨p219, h, hk220⟩ := bnd h
    refine WC.join (σ := (Int × Own)) (fun x w' => x.1 = p219 ∧ Stp [] (Lg.OV v0 3 (Lg.O0 (fun _ => False))) w x.2 w') (fun x => [(0, v0), (2, vi a2), (14, vi x.1)]) ?_ ?_
    ·refine WC.block ?_
     obtain ⟨p230, h, hk232⟩ := flow1 h
     obtain ⟨k231, h⟩ := loop_some h
     refine WC.joinB 4 (σ := (Int × Own)) (fun x w' => p230 = .go x.1 ∧ Stp [] (Lg.OV v0 3 (Lg.O0 (fun _ => False))) w x.2 w') (fun x => [(0, v0), (2, vi a2), (14, vi x.1)]) ?_ ?_
     ·refine WC.loop (σ := (Int × Int × Own)) (fun x k w' => loopN k (slices_symMergeCmpFunc_api_Pair_lp3 a0 a2) (x.1, x.2.1) = some p230 ∧ Stp [] (Lg.OV v0 3 (Lg.O0 (fun _ => False))) w x.2.2 w') (fun x => [(0, v0), (2, vi a2), (4, Value.func (.func 106) (List.toArray []) (List.toArray [])), (14, vi x.1), (15, vi x.2.1)]) (a1, a2, (Lg.OV v0 3 (Lg.O0 (fun _ => False)))) k231 (.cons rfl (.cons rfl (.cons rfl (.cons rfl (.cons rfl .nil))))) ⟨h, (sr_ _ _ _)⟩ ?_
      rintro ⟨i221, j222, O223⟩ k231 wd224 ⟨h, hst225⟩
      obtain ⟨j233, q234, rfl, h, hn235⟩ := rnd1 h
      unfold slices_symMergeCmpFunc_api_Pair_lp3 at h
      try dsimp only at h hst225
      refine (show WC _ _ _ _ [(0, v0), (2, vi a2), (4, Value.func (.func 106) (List.toArray []) (List.toArray [])), (14, vi i221), (15, vi j222)] _ from ?_)
      refine sq (sq (rg (wY (ym rfl) rfl (wY (ym rfl) rfl (wY (Y.lss_i rfl rfl) rfl (nl (th ?_)))))))
      rcases cnd h with ⟨hc236, h⟩ | ⟨hc236, h⟩
      ·refine WC.condT' rfl hc236 (sk (th ?_))
       obtain ⟨p242, h, hk243⟩ := bnd h
       refine WC.join (σ := (Int × Int × Own)) (fun x w' => (x.1, x.2.1) = p242 ∧ Stp [] O223 wd224 x.2.2 w') (fun x => [(0, v0), (2, vi a2), (4, Value.func (.func 106) (List.toArray []) (List.toArray [])), (14, vi x.1), (15, vi x.2.1)]) ?_ ?_
       ·refine WC.block (sq (rg (wY (ym rfl) rfl (wY (ym rfl) rfl (wY (Y.add_i rfl rfl) rfl (wY (Y.conv_iu ty3.u ty61.u rfl) rfl (wY (Y.shr_uu (m := 1) rfl rfl) rfl (wY (Y.conv_ui ty61.u ty3.u rfl) rfl ?_))))))))
        obtain ⟨hv244, hhv244, h⟩ := lt1 h
        refine WL.yE (ya rfl) (congrArg vi hhv244.symm) rfl (nl (th (sq (WC.draw 9 O223 fmix (by kernel_rfl) ?_))))
        intro wd245 hst246
        refine WS.y (ym rfl) rfl (WS.y (ym rfl) rfl (WS.y (ym rfl) rfl ?_))
        obtain ⟨e247, he247, h⟩ := bnd h
        have hf256 := ho11.st hst225 rfl rfl rfl
        have hf257 := hf256.st hst246 rfl rfl rfl
        obtain ⟨b248, cap255, cs254, hv249, hi250, hl251, hc252, hok253⟩ := OwnSl.at hf257 he247
        obtain ⟨_, _, rfl, rfl, rfl⟩ := hok253
        replace hc252 : CellsAt _ _ _ [vs e247.Key, vs e247.Val] := hc252
        have hca258 := CAt.own hf257 hv249 hc252
        refine WS.y (Y.indexAddr ty25 ty65 rfl hv249 rfl hi250 hl251) rfl (WS.y (yL ty65 rfl rfl hca258.at_ rfl) rfl (WS.y (ym rfl) rfl (WS.y (ym rfl) rfl ?_)))
        obtain ⟨e259, he259, h⟩ := bnd h
        obtain ⟨b260, cap267, cs266, hv261, hi262, hl263, hc264, hok265⟩ := OwnSl.at hf257 he259
        obtain ⟨_, _, rfl, rfl, rfl⟩ := hok265
        replace hc264 : CellsAt _ _ _ [vs e259.Key, vs e259.Val] := hc264
        have hca268 := CAt.own hf257 hv261 hc264
        refine WS.y (Y.indexAddr ty25 ty65 rfl hv261 rfl hi262 hl263) rfl (WS.y (yL ty65 rfl rfl hca268.at_ rfl) rfl (WS.tail ?_))
        obtain ⟨p273, h, hk274⟩ := bnd h
        refine WL.callV (fv := []) (cv := []) (vals := [ag [vs e247.Key, vs e247.Val], ag [vs e259.Key, vs e259.Val]]) (σ := (Int × Own)) (fun x w' => x.1 = p273 ∧ Stp [] O223 wd245 x.2 w') (fun x => vi x.1) kok106 rfl rfl rfl ?_ ?_
        ·refine Rets.enter Try.func106 rfl rfl ?_
         refine (show WC _ _ _ _ [(0, ag [vs e247.Key, vs e247.Val]), (1, ag [vs e259.Key, vs e259.Val])] _ from ?_)
         refine sq (rg (WL.box (O := O223) 13 [vs e247.Key, vs e247.Val] rfl rfl rfl ?_))
         intro p276 O277 wd278 hst279 hb275
         refine WL.box (O := O277) 14 [vs e259.Key, vs e259.Val] rfl rfl rfl ?_
         intro p281 O282 wd283 hst284 hb280
         refine wY (ya rfl) rfl (nl (th (sq (rg (wY (yf fo65_0 rfl) rfl ?_)))))
         have hf285 := hb275.st hst284 rfl
         refine wY (yl ty9 rfl rfl (hf285.cell 0 _ rfl)) rfl (wY (yf fo65_0 rfl) rfl (wY (yl ty9 rfl rfl (hb280.cell 0 _ rfl)) rfl ?_))
         obtain ⟨r286, hp287, h⟩ := bnd h
         refine WL.call (vals := [vs e247.Key, vs e259.Key]) kok107 rfl rfl (c_cmp_Compare_string hp287) ?_
         rintro vr290 wd289 ⟨rfl, hm288⟩
         obtain ⟨O291, hold292, hnew293, hst294⟩ := adoptE O282 (fun k => 1) hm288
         refine wY (ya rfl) rfl (nl (th (rt ?_)))
         exact At.res (.inl rfl) rfl (.tmp rfl .nil) ⟨(r286, O291), ⟨some1 h, (tr_ (su_ hst279 rfl) (tr_ (su_ hst284 rfl) (su_ hst294 rfl)))⟩, rfl⟩
        ·rintro ⟨x269, O270⟩ wd271 ⟨rfl, hst272⟩
         replace h := hk274
         try dsimp only at h hst272
         refine (show WL _ _ _ _ _ ((101, vi x269) :: _) _ from ?_)
         refine wY (Y.lss_i rfl rfl) rfl (wY (Y.not rfl) rfl (nl (th ?_)))
         rcases cnd h with ⟨hc295, h⟩ | ⟨hc295, h⟩
         ·refine WC.condT' rfl hc295 (rg (wY (ym rfl) rfl (wY (Y.add_i rfl rfl) rfl ?_)))
          obtain ⟨i296, hi296, h⟩ := lt1 h
          refine WL.yE (ya rfl) (congrArg vi hi296.symm) rfl (nl (At.inBlock ?_))
          exact At.join (σ := (Int × Int × Own)) (i296, j222, O270) ⟨some1 h, (tr_ (su_ hst246 rfl) (su_ hst272 rfl))⟩ (.cons rfl (.cons rfl (.cons rfl (.cons rfl (.cons rfl .nil)))))
         ·refine WC.condF' rfl hc295 (rg (wY (ym rfl) rfl (wY (ya rfl) rfl (nl (At.inBlock ?_)))))
          exact At.join (σ := (Int × Int × Own)) (i221, hv244, O270) ⟨some1 h, (tr_ (su_ hst246 rfl) (su_ hst272 rfl))⟩ (.cons rfl (.cons rfl (.cons rfl (.cons rfl (.cons rfl .nil)))))
       ·rintro ⟨i237, j238, O239⟩ wd240 ⟨rfl, hst241⟩
        replace h := hk243
        try dsimp only at h hst241
        refine (show At _ _ _ [(0, v0), (2, vi a2), (4, Value.func (.func 106) (List.toArray []) (List.toArray [])), (14, vi i237), (15, vi j238)] _ from ?_)
        exact At.round (i237, j238, O239) j233 (Nat.lt_succ_self _) ⟨next1 h hn235, (tr_ (su_ hst225 rfl) (su_ hst241 rfl))⟩ (.cons rfl (.cons rfl (.cons rfl (.cons rfl (.cons rfl .nil)))))
      ·refine WC.condF' rfl hc236 (WC.exit (At.thenX (At.loopX ?_)))
       exact At.hitB (σ := (Int × Own)) (i221, O223) ⟨brk1 h hn235, (su_ hst225 rfl)⟩ (.cons rfl (.cons rfl (.cons rfl .nil)))
     ·rintro ⟨i226, O227⟩ wd228 ⟨rfl, hst229⟩
      replace h := flowK_go hk232
      try dsimp only at h hst229
      refine (show At _ _ _ [(0, v0), (2, vi a2), (14, vi i226)] _ from ?_)
      refine At.inBlockHit ?_
      exact At.join (σ := (Int × Own)) (i226, O227) ⟨some1 h, (su_ hst229 rfl)⟩ (.cons rfl (.cons rfl (.cons rfl .nil)))
    ·rintro ⟨i215, O216⟩ wd217 ⟨rfl, hst218⟩
     replace h := hk220
     try dsimp only at h hst218
     refine (show At _ _ _ [(0, v0), (2, vi a2), (14, vi i215)] _ from ?_)
     refine th (sq (sq (rg (wY (ym rfl) rfl (wY (ya rfl) rfl (nl (th (WC.block ?_))))))))
     obtain ⟨p310, h, hk312⟩ := flow1 h
     obtain ⟨k311, h⟩ := loop_some h
     refine WC.joinB 6 (σ := (List api_Pair × Own)) (fun x w' => p310 = .go x.1 ∧ Stp [3] O216 wd217 x.2 w' ∧ OwnSl 3 rep_api_Pair 65 x.2 w' v0 x.1) (fun x => []) ?_ ?_
     ·have hf313 := ho11.st hst218 rfl rfl rfl
      refine WC.loop (σ := (List api_Pair × Int × Own)) (fun x k w' => loopN k (slices_symMergeCmpFunc_api_Pair_lp4 i215) (x.1, x.2.1) = some p310 ∧ Stp [3] O216 wd217 x.2.2 w' ∧ OwnSl 3 rep_api_Pair 65 x.2.2 w' v0 x.1) (fun x => [(0, v0), (14, vi i215), (17, vi x.2.1)]) (a0, a2, O216) k311 (.cons rfl (.cons rfl (.cons rfl .nil))) ⟨h, (sr_ _ _ _), hf313⟩ ?_
      rintro ⟨data297, k300, O301⟩ k311 wd302 ⟨h, hst303, hf299⟩
      obtain ⟨j314, q315, rfl, h, hn316⟩ := rnd1 h
      unfold slices_symMergeCmpFunc_api_Pair_lp4 at h
      try dsimp only at h hst303 hf299
      refine (show WC _ _ _ _ [(0, v0), (14, vi i215), (17, vi k300)] _ from ?_)
      refine sq (sq (rg (wY (ym rfl) rfl (wY (ym rfl) rfl (wY (Y.gtr_i rfl rfl) rfl (nl (th ?_)))))))
      rcases cnd h with ⟨hc317, h⟩ | ⟨hc317, h⟩
      ·refine WC.condT' rfl hc317 (sk (th (sq (WC.block (WC.drawH [3] [0, 1, 2, 3, 4, 5, 6, 7, 8, 9, 10, 11, 12, 13, 14, 15, 16] O301 18 fmix rfl (by kernel_rfl) ?_)))))
       intro wd318 hst319
       refine WD.y 0 rfl (by kernel_rfl) (fun _ _ _ => ym rfl) rfl (WD.y 1 rfl (by kernel_rfl) (fun _ _ _ => ym rfl) rfl (WD.y 2 rfl (by kernel_rfl) (fun _ _ _ => ym rfl) rfl (WD.y 3 rfl (by kernel_rfl) (fun _ _ _ => ym rfl) rfl (WD.y 4 rfl (by kernel_rfl) (fun _ _ _ => Y.sub_i rfl rfl) rfl (WD.y 5 rfl (by kernel_rfl) (fun _ _ _ => ym rfl) rfl (WD.y 6 rfl (by kernel_rfl) (fun _ _ _ => ym rfl) rfl (WD.y 7 rfl (by kernel_rfl) (fun _ _ _ => Y.sub_i rfl rfl) rfl ?_)))))))
       obtain ⟨e344, he344, h⟩ := bnd h
       have hf353 := hf299.st hst319 rfl rfl rfl
       obtain ⟨b345, cap352, cs351, hv346, hi347, hl348, hc349, hok350⟩ := OwnSl.at hf353 he344
       obtain ⟨_, _, rfl, rfl, rfl⟩ := hok350
       replace hc349 : CellsAt _ _ _ [vs e344.Key, vs e344.Val] := hc349
       have hca354 := CAt.own hf353 hv346 hc349
       refine WD.y 8 rfl (by kernel_rfl) (fun _ _ _ => Y.indexAddr ty25 ty65 rfl hv346 rfl hi347 hl348) rfl (WD.y 10 rfl (by kernel_rfl) (fun _ _ _ => ym rfl) rfl (WD.y 11 rfl (by kernel_rfl) (fun _ _ _ => ym rfl) rfl ?_))
       obtain ⟨e364, he364, h⟩ := bnd h
       obtain ⟨b365, cap372, cs371, hv366, hi367, hl368, hc369, hok370⟩ := OwnSl.at hf353 he364
       obtain ⟨_, _, rfl, rfl, rfl⟩ := hok370
       replace hc369 : CellsAt _ _ _ [vs e364.Key, vs e364.Val] := hc369
       have hca373 := CAt.own hf353 hv366 hc369
       refine WD.y 12 rfl (by kernel_rfl) (fun _ _ _ => Y.indexAddr ty25 ty65 rfl hv366 rfl hi367 hl368) rfl ?_
       obtain ⟨p377, h, hk378⟩ := bnd h
       refine WD.join (σ := Unit) (f' := 4) [13, 12, 11, 10, 9, 8, 7, 6, 5, 4, 3, 2, 1, 0] (fun x O' w' => () = p377 ∧ wd318 = w' ∧ O301 = O') (fun x => [(0, v0), (14, vi i215), (17, vi k300), (113, v0), (114, vi k300), (115, v0), (117, vi (w64 (k300 - 1))), (122, ag [vs e344.Key, vs e344.Val]), (126, ag [vs e364.Key, vs e364.Val])]) (fun hJ379 => ?_) ?_
       ·refine WD.heavy2 9 13 rfl rfl (by kernel_rfl) ?_ ?_
        ·refine wY (yL ty65 rfl rfl hca354.at_ rfl) rfl (nl (At.dq (sr_ _ _ _) (WD.heavy 13 rfl (by kernel_rfl) (wY (yL ty65 rfl rfl hca373.at_ rfl) rfl (nl (At.dq (sr_ _ _ _) (WD.perm _ [13, 12, 11, 10, 9, 8, 7, 6, 5, 4, 3, 2, 1, 0] (by kernel_rfl) ?_)))))))
         exact hJ379 () _ _ _ ⟨rfl, rfl, rfl⟩ (.cons rfl (.cons rfl (.cons rfl (.cons rfl (.cons rfl (.cons rfl (.cons rfl (.cons rfl (.cons rfl .nil)))))))))
        ·try simp only [Option.bind_assoc] at h
         try simp only [Option.bind_some] at h
         refine wY (yL ty65 rfl rfl hca373.at_ rfl) rfl (nl (At.dq (sr_ _ _ _) (WD.heavy 9 rfl (by kernel_rfl) (wY (yL ty65 rfl rfl hca354.at_ rfl) rfl (nl (At.dq (sr_ _ _ _) (WD.perm _ [13, 12, 11, 10, 9, 8, 7, 6, 5, 4, 3, 2, 1, 0] (by kernel_rfl) ?_)))))))
         exact hJ379 () _ _ _ ⟨rfl, rfl, rfl⟩ (.cons rfl (.cons rfl (.cons rfl (.cons rfl (.cons rfl (.cons rfl (.cons rfl (.cons rfl (.cons rfl .nil)))))))))
       ·rintro _ _ _ ⟨rfl, rfl, rfl⟩
        replace h := hk378
        refine (show WD _ _ _ _ _ _ _ _ [(0, v0), (14, vi i215), (17, vi k300), (113, v0), (114, vi k300), (115, v0), (117, vi (w64 (k300 - 1))), (122, ag [vs e344.Key, vs e344.Val]), (126, ag [vs e364.Key, vs e364.Val])] _ _ from ?_)
        obtain ⟨e380, he380, h⟩ := bnd h
        obtain ⟨b381, cap388, cs387, hv382, hi383, hl384, hc385, hok386⟩ := OwnSl.at hf353 he380
        obtain ⟨_, _, rfl, rfl, rfl⟩ := hok386
        replace hc385 : CellsAt _ _ _ [vs e380.Key, vs e380.Val] := hc385
        have hca389 := CAt.own hf353 hv382 hc385
        refine WD.y 14 rfl (by kernel_rfl) (fun _ _ _ => Y.indexAddr ty25 ty65 rfl hv382 rfl hi383 hl384) rfl (WD.heavy 15 rfl (by kernel_rfl) ?_)
        obtain ⟨xs393, hxs393, h⟩ := bnd h
        refine WL.storeOwn (R := rep_api_Pair) (u := e344) (by decide) ty65 rfl rfl ⟨[vs e344.Key], [vs e344.Val], rfl, rfl, rfl⟩ hf353 hv382 hxs393 ?_
        intro wd394 hst395 ho396
        refine nl (At.dq (su_ hst395 rfl) ?_)
        obtain ⟨e397, he397, h⟩ := bnd h
        obtain ⟨b398, cap405, cs404, hv399, hi400, hl401, hc402, hok403⟩ := OwnSl.at ho396 he397
        obtain ⟨_, _, rfl, rfl, rfl⟩ := hok403
        replace hc402 : CellsAt _ _ _ [vs e397.Key, vs e397.Val] := hc402
        have hca406 := CAt.own ho396 hv399 hc402
        refine WD.y 16 rfl (by kernel_rfl) (fun _ _ _ => Y.indexAddr ty25 ty65 rfl hv399 rfl hi400 hl401) rfl (WD.phase [3] [0, 1, 2, 3, 4, 5, 6, 7, 8, 9, 10, 11, 12, 13, 14, 15, 16, 17] (by kernel_rfl) (by kernel_rfl) (WD.heavy 17 rfl (by kernel_rfl) ?_))
        obtain ⟨xs410, hxs410, h⟩ := bnd h
        refine WL.storeOwn (R := rep_api_Pair) (u := e364) (by decide) ty65 rfl rfl ⟨[vs e364.Key], [vs e364.Val], rfl, rfl, rfl⟩ ho396 hv399 hxs410 ?_
        intro wd411 hst412 ho413
        refine nl (At.dq (su_ hst412 rfl) (WD.done_ (by kernel_rfl) (At.inBlock (th (rg (wY (ym rfl) rfl (wY (Y.sub_i rfl rfl) rfl ?_)))))))
        obtain ⟨k414, hk414, h⟩ := lt1 h
        refine WL.yE (ya rfl) (congrArg vi hk414.symm) rfl (nl ?_)
        exact At.round (xs410, k414, O301) j314 (Nat.lt_succ_self _) ⟨next1 h hn316, (tr_ (su_ hst303 rfl) (tr_ (su_ hst319 rfl) (tr_ (su_ hst395 rfl) (su_ hst412 rfl)))), ho413⟩ (.cons rfl (.cons rfl (.cons rfl .nil)))
      ·refine WC.condF' rfl hc317 (WC.exit (At.thenX (At.loopX ?_)))
       exact At.hitB (σ := (List api_Pair × Own)) (data297, O301) ⟨brk1 h hn316, (su_ hst303 rfl), hf299⟩ .nil
     ·rintro ⟨x304, O307⟩ wd308 ⟨rfl, hst309, hf306⟩
      replace h := flowK_go hk312
      try dsimp only at h hst309 hf306
      refine (show At _ _ _ [] _ from ?_)
      refine At.inBlockHit (th (rt (At.thenR ?_)))
      obtain rfl := some1 h
      have hs415 : Stp [3] (Lg.OV v0 3 (Lg.O0 (fun _ => False))) w O307 wd308 := (tr_ (su_ hst218 rfl) (su_ hst309 rfl))
      exact At.res (.inl rfl) rfl .nil ⟨rfl, (Stp.modL hs415 sV1 rfl rfl), hf306.row⟩
   ·refine WC.condF' rfl hc214 (sk (th (sq (rg (wY (ym rfl) rfl (wY (ym rfl) rfl (wY (Y.add_i rfl rfl) rfl (wY (Y.conv_iu ty3.u ty61.u rfl) rfl (wY (Y.shr_uu (m := 1) rfl rfl) rfl ?_)))))))))
    refine wY (Y.conv_ui ty61.u ty3.u rfl) rfl ?_
    obtain ⟨mid416, hmid416, h⟩ := lt1 h
    refine WL.yE (ya rfl) (congrArg vi hmid416.symm) rfl (nl (th (sq (rg (wY (ym rfl) rfl (wY (ym rfl) rfl (wY (Y.add_i rfl rfl) rfl ?_)))))))
    obtain ⟨nv417, hnv417, h⟩ := lt1 h
    refine WL.yE (ya rfl) (congrArg vi hnv417.symm) rfl (nl (th (sq (rg (wY (ya rfl) rfl (wY (ya rfl) rfl (nl (th (sq ?_)))))))))
    obtain ⟨p420, h, hk421⟩ := bnd h
    refine WC.join (σ := (Int × Int)) (fun x w' => (x.1, x.2) = p420 ∧ w = w') (fun x => [(0, v0), (1, vi a1), (2, vi a2), (3, vi a3), (4, Value.func (.func 106) (List.toArray []) (List.toArray [])), (18, vi mid416), (19, vi nv417), (20, vi x.1), (21, vi x.2)]) ?_ ?_
    ·refine sq (rg (wY (ym rfl) rfl (wY (ym rfl) rfl (wY (Y.gtr_i rfl rfl) rfl (nl (th ?_))))))
     rcases cnd h with ⟨hc422, h⟩ | ⟨hc422, h⟩
     ·refine WC.condT' rfl hc422 (sq (rg (wY (ym rfl) rfl (wY (ym rfl) rfl (wY (Y.sub_i rfl rfl) rfl ?_)))))
      obtain ⟨start423, hstart423, h⟩ := lt1 h
      refine WL.yE (ya rfl) (congrArg vi hstart423.symm) rfl (nl (th (rg (wY (ym rfl) rfl (wY (ya rfl) rfl (nl ?_))))))
      exact At.join (σ := (Int × Int)) (start423, mid416) ⟨some1 h, rfl⟩ (.cons rfl (.cons rfl (.cons rfl (.cons rfl (.cons rfl (.cons rfl (.cons rfl (.cons rfl (.cons rfl .nil)))))))))
     ·refine WC.condF' rfl hc422 (sq (rg (wY (ym rfl) rfl (wY (ya rfl) rfl (nl (th (rg (wY (ym rfl) rfl (wY (ya rfl) rfl ?_)))))))))
      refine nl ?_
      exact At.join (σ := (Int × Int)) (a1, a2) ⟨some1 h, rfl⟩ (.cons rfl (.cons rfl (.cons rfl (.cons rfl (.cons rfl (.cons rfl (.cons rfl (.cons rfl (.cons rfl .nil)))))))))
    ·rintro ⟨start418, r419⟩ _ ⟨rfl, rfl⟩
     replace h := hk421
     try dsimp only at h
     refine (show At _ _ _ [(0, v0), (1, vi a1), (2, vi a2), (3, vi a3), (4, Value.func (.func 106) (List.toArray []) (List.toArray [])), (18, vi mid416), (19, vi nv417), (20, vi start418), (21, vi r419)] _ from ?_)
     refine th (sq (rg (wY (ym rfl) rfl (wY (Y.sub_i rfl rfl) rfl ?_))))
     obtain ⟨p424, hp424, h⟩ := lt1 h
     refine WL.yE (ya rfl) (congrArg vi hp424.symm) rfl (nl (th (sq ?_)))
     obtain ⟨p429, h, hk430⟩ := bnd h
     refine WC.join (σ := (Int × Own)) (fun x w' => x.1 = p429 ∧ Stp [] (Lg.OV v0 3 (Lg.O0 (fun _ => False))) w x.2 w') (fun x => [(0, v0), (1, vi a1), (2, vi a2), (3, vi a3), (4, Value.func (.func 106) (List.toArray []) (List.toArray [])), (18, vi mid416), (19, vi nv417), (20, vi x.1)]) ?_ ?_
     ·refine WC.block ?_
      obtain ⟨p440, h, hk442⟩ := flow1 h
      obtain ⟨k441, h⟩ := loop_some h
      refine WC.joinB 8 (σ := (Int × Own)) (fun x w' => p440 = .go x.1 ∧ Stp [] (Lg.OV v0 3 (Lg.O0 (fun _ => False))) w x.2 w') (fun x => [(0, v0), (1, vi a1), (2, vi a2), (3, vi a3), (4, Value.func (.func 106) (List.toArray []) (List.toArray [])), (18, vi mid416), (19, vi nv417), (20, vi x.1)]) ?_ ?_
      ·refine WC.loop (σ := (Int × Int × Own)) (fun x k w' => loopN k (slices_symMergeCmpFunc_api_Pair_lp5 a0 p424) (x.1, x.2.1) = some p440 ∧ Stp [] (Lg.OV v0 3 (Lg.O0 (fun _ => False))) w x.2.2 w') (fun x => [(0, v0), (1, vi a1), (2, vi a2), (3, vi a3), (4, Value.func (.func 106) (List.toArray []) (List.toArray [])), (18, vi mid416), (19, vi nv417), (20, vi x.1), (21, vi x.2.1), (22, vi p424)]) (start418, r419, (Lg.OV v0 3 (Lg.O0 (fun _ => False)))) k441 (.cons rfl (.cons rfl (.cons rfl (.cons rfl (.cons rfl (.cons rfl (.cons rfl (.cons rfl (.cons rfl (.cons rfl .nil)))))))))) ⟨h, (sr_ _ _ _)⟩ ?_
       rintro ⟨start431, r432, O433⟩ k441 wd434 ⟨h, hst435⟩
       obtain ⟨j443, q444, rfl, h, hn445⟩ := rnd1 h
       unfold slices_symMergeCmpFunc_api_Pair_lp5 at h
       try dsimp only at h hst435
       refine (show WC _ _ _ _ [(0, v0), (1, vi a1), (2, vi a2), (3, vi a3), (4, Value.func (.func 106) (List.toArray []) (List.toArray [])), (18, vi mid416), (19, vi nv417), (20, vi start431), (21, vi r432), (22, vi p424)] _ from ?_)
       refine sq (sq (rg (wY (ym rfl) rfl (wY (ym rfl) rfl (wY (Y.lss_i rfl rfl) rfl (nl (th ?_)))))))
       rcases cnd h with ⟨hc446, h⟩ | ⟨hc446, h⟩
       ·refine WC.condT' rfl hc446 (sk (th ?_))
        obtain ⟨p452, h, hk453⟩ := bnd h
        refine WC.join (σ := (Int × Int × Own)) (fun x w' => (x.1, x.2.1) = p452 ∧ Stp [] O433 wd434 x.2.2 w') (fun x => [(0, v0), (1, vi a1), (2, vi a2), (3, vi a3), (4, Value.func (.func 106) (List.toArray []) (List.toArray [])), (18, vi mid416), (19, vi nv417), (20, vi x.1), (21, vi x.2.1), (22, vi p424)]) ?_ ?_
        ·refine WC.block (sq (rg (wY (ym rfl) rfl (wY (ym rfl) rfl (wY (Y.add_i rfl rfl) rfl (wY (Y.conv_iu ty3.u ty61.u rfl) rfl (wY (Y.shr_uu (m := 1) rfl rfl) rfl (wY (Y.conv_ui ty61.u ty3.u rfl) rfl ?_))))))))
         obtain ⟨c454, hc454, h⟩ := lt1 h
         refine WL.yE (ya rfl) (congrArg vi hc454.symm) rfl (nl (th (sq (WC.draw 11 O433 fmix (by kernel_rfl) ?_))))
         intro wd455 hst456
         refine WS.y (ym rfl) rfl (WS.y (ym rfl) rfl (WS.y (ym rfl) rfl (WS.y (ym rfl) rfl (WS.y (Y.sub_i rfl rfl) rfl ?_))))
         obtain ⟨e457, he457, h⟩ := bnd h
         have hf466 := ho11.st hst435 rfl rfl rfl
         have hf467 := hf466.st hst456 rfl rfl rfl
         obtain ⟨b458, cap465, cs464, hv459, hi460, hl461, hc462, hok463⟩ := OwnSl.at hf467 he457
         obtain ⟨_, _, rfl, rfl, rfl⟩ := hok463
         replace hc462 : CellsAt _ _ _ [vs e457.Key, vs e457.Val] := hc462
         have hca468 := CAt.own hf467 hv459 hc462
         refine WS.y (Y.indexAddr ty25 ty65 rfl hv459 rfl hi460 hl461) rfl (WS.y (yL ty65 rfl rfl hca468.at_ rfl) rfl (WS.y (ym rfl) rfl (WS.y (ym rfl) rfl ?_)))
         obtain ⟨e469, he469, h⟩ := bnd h
         obtain ⟨b470, cap477, cs476, hv471, hi472, hl473, hc474, hok475⟩ := OwnSl.at hf467 he469
         obtain ⟨_, _, rfl, rfl, rfl⟩ := hok475
         replace hc474 : CellsAt _ _ _ [vs e469.Key, vs e469.Val] := hc474
         have hca478 := CAt.own hf467 hv471 hc474
         refine WS.y (Y.indexAddr ty25 ty65 rfl hv471 rfl hi472 hl473) rfl (WS.y (yL ty65 rfl rfl hca478.at_ rfl) rfl (WS.tail ?_))
         obtain ⟨p483, h, hk484⟩ := bnd h
         refine WL.callV (fv := []) (cv := []) (vals := [ag [vs e457.Key, vs e457.Val], ag [vs e469.Key, vs e469.Val]]) (σ := (Int × Own)) (fun x w' => x.1 = p483 ∧ Stp [] O433 wd455 x.2 w') (fun x => vi x.1) kok106 rfl rfl rfl ?_ ?_
         ·refine Rets.enter Try.func106 rfl rfl ?_
          refine (show WC _ _ _ _ [(0, ag [vs e457.Key, vs e457.Val]), (1, ag [vs e469.Key, vs e469.Val])] _ from ?_)
          refine sq (rg (WL.box (O := O433) 15 [vs e457.Key, vs e457.Val] rfl rfl rfl ?_))
          intro p486 O487 wd488 hst489 hb485
          refine WL.box (O := O487) 16 [vs e469.Key, vs e469.Val] rfl rfl rfl ?_
          intro p491 O492 wd493 hst494 hb490
          refine wY (ya rfl) rfl (nl (th (sq (rg (wY (yf fo65_0 rfl) rfl ?_)))))
          have hf495 := hb485.st hst494 rfl
          refine wY (yl ty9 rfl rfl (hf495.cell 0 _ rfl)) rfl (wY (yf fo65_0 rfl) rfl (wY (yl ty9 rfl rfl (hb490.cell 0 _ rfl)) rfl ?_))
          obtain ⟨r496, hp497, h⟩ := bnd h
          refine WL.call (vals := [vs e457.Key, vs e469.Key]) kok107 rfl rfl (c_cmp_Compare_string hp497) ?_
          rintro vr500 wd499 ⟨rfl, hm498⟩
          obtain ⟨O501, hold502, hnew503, hst504⟩ := adoptE O492 (fun k => 1) hm498
          refine wY (ya rfl) rfl (nl (th (rt ?_)))
          exact At.res (.inl rfl) rfl (.tmp rfl .nil) ⟨(r496, O501), ⟨some1 h, (tr_ (su_ hst489 rfl) (tr_ (su_ hst494 rfl) (su_ hst504 rfl)))⟩, rfl⟩
         ·rintro ⟨x479, O480⟩ wd481 ⟨rfl, hst482⟩
          replace h := hk484
          try dsimp only at h hst482
          refine (show WL _ _ _ _ _ ((169, vi x479) :: _) _ from ?_)
          refine wY (Y.lss_i rfl rfl) rfl (wY (Y.not rfl) rfl (nl (th ?_)))
          rcases cnd h with ⟨hc505, h⟩ | ⟨hc505, h⟩
          ·refine WC.condT' rfl hc505 (rg (wY (ym rfl) rfl (wY (Y.add_i rfl rfl) rfl ?_)))
           obtain ⟨start506, hstart506, h⟩ := lt1 h
           refine WL.yE (ya rfl) (congrArg vi hstart506.symm) rfl (nl (At.inBlock ?_))
           exact At.join (σ := (Int × Int × Own)) (start506, r432, O480) ⟨some1 h, (tr_ (su_ hst456 rfl) (su_ hst482 rfl))⟩ (.cons rfl (.cons rfl (.cons rfl (.cons rfl (.cons rfl (.cons rfl (.cons rfl (.cons rfl (.cons rfl (.cons rfl .nil))))))))))
          ·refine WC.condF' rfl hc505 (rg (wY (ym rfl) rfl (wY (ya rfl) rfl (nl (At.inBlock ?_)))))
           exact At.join (σ := (Int × Int × Own)) (start431, c454, O480) ⟨some1 h, (tr_ (su_ hst456 rfl) (su_ hst482 rfl))⟩ (.cons rfl (.cons rfl (.cons rfl (.cons rfl (.cons rfl (.cons rfl (.cons rfl (.cons rfl (.cons rfl (.cons rfl .nil))))))))))
        ·rintro ⟨start447, r448, O449⟩ wd450 ⟨rfl, hst451⟩
         replace h := hk453
         try dsimp only at h hst451
         refine (show At _ _ _ [(0, v0), (1, vi a1), (2, vi a2), (3, vi a3), (4, Value.func (.func 106) (List.toArray []) (List.toArray [])), (18, vi mid416), (19, vi nv417), (20, vi start447), (21, vi r448), (22, vi p424)] _ from ?_)
         exact At.round (start447, r448, O449) j443 (Nat.lt_succ_self _) ⟨next1 h hn445, (tr_ (su_ hst435 rfl) (su_ hst451 rfl))⟩ (.cons rfl (.cons rfl (.cons rfl (.cons rfl (.cons rfl (.cons rfl (.cons rfl (.cons rfl (.cons rfl (.cons rfl .nil))))))))))
       ·refine WC.condF' rfl hc446 (WC.exit (At.thenX (At.loopX ?_)))
        exact At.hitB (σ := (Int × Own)) (start431, O433) ⟨brk1 h hn445, (su_ hst435 rfl)⟩ (.cons rfl (.cons rfl (.cons rfl (.cons rfl (.cons rfl (.cons rfl (.cons rfl (.cons rfl .nil))))))))
      ·rintro ⟨start436, O437⟩ wd438 ⟨rfl, hst439⟩
       replace h := flowK_go hk442
       try dsimp only at h hst439
       refine (show At _ _ _ [(0, v0), (1, vi a1), (2, vi a2), (3, vi a3), (4, Value.func (.func 106) (List.toArray []) (List.toArray [])), (18, vi mid416), (19, vi nv417), (20, vi start436)] _ from ?_)
       refine At.inBlockHit ?_
       exact At.join (σ := (Int × Own)) (start436, O437) ⟨some1 h, (su_ hst439 rfl)⟩ (.cons rfl (.cons rfl (.cons rfl (.cons rfl (.cons rfl (.cons rfl (.cons rfl (.cons rfl .nil))))))))
     ·rintro ⟨start425, O426⟩ wd427 ⟨rfl, hst428⟩
      replace h := hk430
      try dsimp only at h hst428
      refine (show At _ _ _ [(0, v0), (1, vi a1), (2, vi a2), (3, vi a3), (4, Value.func (.func 106) (List.toArray []) (List.toArray [])), (18, vi mid416), (19, vi nv417), (20, vi start425)] _ from ?_)
      refine th (sq (rg (wY (ym rfl) rfl (wY (ym rfl) rfl (wY (Y.sub_i rfl rfl) rfl ?_)))))
      obtain ⟨end507, hend507, h⟩ := lt1 h
      refine WL.yE (ya rfl) (congrArg vi hend507.symm) rfl (nl (th (sq ?_)))
      obtain ⟨p514, h, hk515⟩ := bnd h
      refine WC.join (σ := (List api_Pair × Own)) (fun x w' => x.1 = p514 ∧ Stp [3] O426 wd427 x.2 w' ∧ OwnSl 3 rep_api_Pair 65 x.2 w' v0 x.1) (fun x => [(0, v0), (1, vi a1), (3, vi a3), (4, Value.func (.func 106) (List.toArray []) (List.toArray [])), (18, vi mid416), (20, vi start425), (24, vi end507)]) ?_ ?_
      ·refine sq (rg (wY (ym rfl) rfl (wY (ym rfl) rfl (wY (Y.lss_i rfl rfl) rfl (wY (ym rfl) rfl ?_)))))
       refine WL.cut 4 (σ := Unit) (fun _ w' => wd427 = w') (fun _ => [(0, v0), (1, vi a1), (2, vi a2), (3, vi a3), (4, Value.func (.func 106) (List.toArray []) (List.toArray [])), (18, vi mid416), (20, vi start425), (24, vi end507), (185, vB ((decide (start425 < a2)) && (decide (a2 < end507))))]) ?_ ?_
       ·refine WL.part 181 rfl (fun hE516 => ?_) (fun hE516 => ?_)
        ·refine ug rfl rfl (wY (ym rfl) rfl (ug rfl rfl (wY (ym rfl) rfl (ug rfl rfl (wY (Y.lss_i rfl rfl) rfl (wY (Y.pick (b := true) rfl rfl) rfl (WL.ren (v' := vB ((decide (start425 < a2)) && (decide (a2 < end507)))) 185 rfl (congrArg vB (andT hE516)) ?_)))))))
         exact nl (At.join () rfl (.cons rfl (.cons rfl (.cons rfl (.cons rfl (.cons rfl (.cons rfl (.cons rfl (.cons rfl (.cons rfl .nil))))))))))
        ·refine WL.gS rfl rfl rfl rfl (WL.gS rfl rfl rfl rfl (WL.gS rfl rfl rfl rfl (wY (Y.pick (b := false) rfl rfl) rfl (WL.ren (v' := vB ((decide (start425 < a2)) && (decide (a2 < end507)))) 185 rfl (congrArg vB (andF hE516)) ?_))))
         exact nl (At.join () rfl (.cons rfl (.cons rfl (.cons rfl (.cons rfl (.cons rfl (.cons rfl (.cons rfl (.cons rfl (.cons rfl .nil))))))))))
       ·rintro _ _ rfl
        refine (show WL _ _ _ _ _ [(0, v0), (1, vi a1), (2, vi a2), (3, vi a3), (4, Value.func (.func 106) (List.toArray []) (List.toArray [])), (18, vi mid416), (20, vi start425), (24, vi end507), (185, vB ((decide (start425 < a2)) && (decide (a2 < end507))))] _ from ?_)
        refine nl (th ?_)
        rcases cnd h with ⟨hc517, h⟩ | ⟨hc517, h⟩
        ·refine WC.condT' rfl hc517 (rg (wY (ym rfl) rfl (wY (ym rfl) rfl (wY (ym rfl) rfl (wY (ym rfl) rfl (wY (ym rfl) rfl ?_))))))
         obtain ⟨p524, h, hk525⟩ := bnd h
         refine WL.callJ (vals := [v0, vi start425, vi a2, vi end507, Value.func (.func 106) (List.toArray []) (List.toArray [])]) (σ := (List api_Pair × Own)) (fun x w' => x.1 = p524 ∧ Stp [3] O426 wd427 x.2 w' ∧ OwnSl 3 rep_api_Pair 65 x.2 w' v0 x.1) (fun x => tp []) kok127 rfl rfl ?_ ?_
         ·refine Rets.enter Try.func127 rfl rfl ?_
          refine (show WC _ _ _ _ [(0, v0), (1, vi start425), (2, vi a2), (3, vi end507), (4, Value.func (.func 106) (List.toArray []) (List.toArray []))] _ from ?_)
          refine sq (rg (wY (ym rfl) rfl (wY (ym rfl) rfl (wY (Y.sub_i rfl rfl) rfl ?_))))
          obtain ⟨i526, hi526, h⟩ := lt1 h
          refine WL.yE (ya rfl) (congrArg vi hi526.symm) rfl (nl (th (sq (rg (wY (ym rfl) rfl (wY (ym rfl) rfl (wY (Y.sub_i rfl rfl) rfl ?_)))))))
          obtain ⟨j527, hj527, h⟩ := lt1 h
          refine WL.yE (ya rfl) (congrArg vi hj527.symm) rfl (nl (th (sq ?_)))
          obtain ⟨p535, h, hk536⟩ := bnd h
          refine WC.join (σ := (List api_Pair × Int × Own)) (fun x w' => (x.1, x.2.1) = p535 ∧ Stp [3] O426 wd427 x.2.2 w' ∧ OwnSl 3 rep_api_Pair 65 x.2.2 w' v0 x.1) (fun x => [(0, v0), (2, vi a2), (4, Value.func (.func 106) (List.toArray []) (List.toArray [])), (10, vi x.2.1)]) ?_ ?_
          ·refine WC.block ?_
           obtain ⟨p552, h, hk554⟩ := flow1 h
           obtain ⟨k553, h⟩ := loop_some h
           refine WC.joinB 0 (σ := (List api_Pair × Int × Own)) (fun x w' => p552 = .go (x.1, x.2.1) ∧ Stp [3] O426 wd427 x.2.2 w' ∧ OwnSl 3 rep_api_Pair 65 x.2.2 w' v0 x.1) (fun x => [(0, v0), (2, vi a2), (4, Value.func (.func 106) (List.toArray []) (List.toArray [])), (10, vi x.2.1)]) ?_ ?_
           ·have hf555 := ho11.st hst428 rfl rfl rfl
            refine WC.loop (σ := (List api_Pair × Int × Int × Own)) (fun x k w' => loopN k (slices_symMergeCmpFunc_api_Pair_lp6 a2) (x.1, x.2.1, x.2.2.1) = some p552 ∧ Stp [3] O426 wd427 x.2.2.2 w' ∧ OwnSl 3 rep_api_Pair 65 x.2.2.2 w' v0 x.1) (fun x => [(0, v0), (2, vi a2), (4, Value.func (.func 106) (List.toArray []) (List.toArray [])), (10, vi x.2.1), (11, vi x.2.2.1)]) (a0, i526, j527, O426) k553 (.cons rfl (.cons rfl (.cons rfl (.cons rfl (.cons rfl .nil))))) ⟨h, (sr_ _ _ _), hf555⟩ ?_
            rintro ⟨data537, i540, j541, O542⟩ k553 wd543 ⟨h, hst544, hf539⟩
            obtain ⟨j556, q557, rfl, h, hn558⟩ := rnd1 h
            unfold slices_symMergeCmpFunc_api_Pair_lp6 at h
            try dsimp only at h hst544 hf539
            refine (show WC _ _ _ _ [(0, v0), (2, vi a2), (4, Value.func (.func 106) (List.toArray []) (List.toArray [])), (10, vi i540), (11, vi j541)] _ from ?_)
            refine sq (sq (rg (wY (ym rfl) rfl (wY (ym rfl) rfl (wY (Y.neq_i rfl rfl) rfl (nl (th ?_)))))))
            rcases cnd h with ⟨hc559, h⟩ | ⟨hc559, h⟩
            ·refine WC.condT' rfl hc559 (sk (th ?_))
             obtain ⟨p568, h, hk569⟩ := bnd h
             refine WC.join (σ := (List api_Pair × Int × Int × Own)) (fun x w' => (x.1, x.2.1, x.2.2.1) = p568 ∧ Stp [3] O542 wd543 x.2.2.2 w' ∧ OwnSl 3 rep_api_Pair 65 x.2.2.2 w' v0 x.1) (fun x => [(0, v0), (2, vi a2), (4, Value.func (.func 106) (List.toArray []) (List.toArray [])), (10, vi x.2.1), (11, vi x.2.2.1)]) ?_ ?_
             ·refine WC.block (sq (rg (wY (ym rfl) rfl (wY (ym rfl) rfl (wY (Y.gtr_i rfl rfl) rfl (nl (th ?_)))))))
              rcases cnd h with ⟨hc570, h⟩ | ⟨hc570, h⟩
              ·refine WC.condT' rfl hc570 (sq (rg (wY (ym rfl) rfl (wY (ym rfl) rfl (wY (ym rfl) rfl (wY (Y.sub_i rfl rfl) rfl (wY (ym rfl) rfl (wY (ym rfl) rfl (wY (ym rfl) rfl ?_)))))))))
               obtain ⟨p577, h, hk578⟩ := bnd h
               refine WL.callJ (vals := [v0, vi (w64 (a2 - i540)), vi a2, vi j541, Value.func (.func 106) (List.toArray []) (List.toArray [])]) (σ := (List api_Pair × Own)) (fun x w' => x.1 = p577 ∧ Stp [3] O542 wd543 x.2 w' ∧ OwnSl 3 rep_api_Pair 65 x.2 w' v0 x.1) (fun x => tp []) kok128 rfl rfl ?_ ?_
               ·refine Rets.enter Try.func128 rfl rfl ?_
                refine (show WC _ _ _ _ [(0, v0), (1, vi (w64 (a2 - i540))), (2, vi a2), (3, vi j541), (4, Value.func (.func 106) (List.toArray []) (List.toArray []))] _ from ?_)
                refine sq (rg (wY (ya rfl) rfl (nl (th (WC.block ?_)))))
                obtain ⟨p592, h, hk594⟩ := flow1 h
                obtain ⟨k593, h⟩ := loop_some h
                refine WC.joinB 0 (σ := (List api_Pair × Own)) (fun x w' => p592 = .go x.1 ∧ Stp [3] O542 wd543 x.2 w' ∧ OwnSl 3 rep_api_Pair 65 x.2 w' v0 x.1) (fun x => []) ?_ ?_
                ·refine WC.loop (σ := (List api_Pair × Int × Own)) (fun x k w' => loopN k (slices_symMergeCmpFunc_api_Pair_lp7 a2 i540 j541) (x.1, x.2.1) = some p592 ∧ Stp [3] O542 wd543 x.2.2 w' ∧ OwnSl 3 rep_api_Pair 65 x.2.2 w' v0 x.1) (fun x => [(0, v0), (1, vi (w64 (a2 - i540))), (2, vi a2), (3, vi j541), (10, vi x.2.1)]) (data537, 0, O542) k593 (.cons rfl (.cons rfl (.cons rfl (.cons rfl (.cons rfl .nil))))) ⟨h, (sr_ _ _ _), hf539⟩ ?_
                 rintro ⟨data579, i582, O583⟩ k593 wd584 ⟨h, hst585, hf581⟩
                 obtain ⟨j595, q596, rfl, h, hn597⟩ := rnd1 h
                 unfold slices_symMergeCmpFunc_api_Pair_lp7 at h
                 try dsimp only at h hst585 hf581
                 refine (show WC _ _ _ _ [(0, v0), (1, vi (w64 (a2 - i540))), (2, vi a2), (3, vi j541), (10, vi i582)] _ from ?_)
                 refine sq (sq (rg (wY (ym rfl) rfl (wY (ym rfl) rfl (wY (Y.lss_i rfl rfl) rfl (nl (th ?_)))))))
                 rcases cnd h with ⟨hc598, h⟩ | ⟨hc598, h⟩
                 ·refine WC.condT' rfl hc598 (sk (th (sq (WC.block (WC.drawH [3] [0, 1, 2, 3, 4, 5, 6, 7, 8, 9, 10, 11, 12, 13, 14, 15, 16, 17, 18, 19, 20, 21, 22] O583 24 fmix rfl (by kernel_rfl) ?_)))))
                  intro wd599 hst600
                  refine WD.y 0 rfl (by kernel_rfl) (fun _ _ _ => ym rfl) rfl (WD.y 1 rfl (by kernel_rfl) (fun _ _ _ => ym rfl) rfl (WD.y 2 rfl (by kernel_rfl) (fun _ _ _ => ym rfl) rfl (WD.y 3 rfl (by kernel_rfl) (fun _ _ _ => Y.add_i rfl rfl) rfl (WD.y 4 rfl (by kernel_rfl) (fun _ _ _ => ym rfl) rfl (WD.y 5 rfl (by kernel_rfl) (fun _ _ _ => ym rfl) rfl (WD.y 6 rfl (by kernel_rfl) (fun _ _ _ => ym rfl) rfl (WD.y 7 rfl (by kernel_rfl) (fun _ _ _ => Y.add_i rfl rfl) rfl (WD.y 8 rfl (by kernel_rfl) (fun _ _ _ => ym rfl) rfl (WD.y 9 rfl (by kernel_rfl) (fun _ _ _ => ym rfl) rfl ?_)))))))))
                  refine WD.y 10 rfl (by kernel_rfl) (fun _ _ _ => ym rfl) rfl (WD.y 11 rfl (by kernel_rfl) (fun _ _ _ => Y.add_i rfl rfl) rfl ?_)
                  obtain ⟨e637, he637, h⟩ := bnd h
                  have hf646 := hf581.st hst600 rfl rfl rfl
                  obtain ⟨b638, cap645, cs644, hv639, hi640, hl641, hc642, hok643⟩ := OwnSl.at hf646 he637
                  obtain ⟨_, _, rfl, rfl, rfl⟩ := hok643
                  replace hc642 : CellsAt _ _ _ [vs e637.Key, vs e637.Val] := hc642
                  have hca647 := CAt.own hf646 hv639 hc642
                  refine WD.y 12 rfl (by kernel_rfl) (fun _ _ _ => Y.indexAddr ty25 ty65 rfl hv639 rfl hi640 hl641) rfl (WD.y 14 rfl (by kernel_rfl) (fun _ _ _ => ym rfl) rfl (WD.y 15 rfl (by kernel_rfl) (fun _ _ _ => ym rfl) rfl (WD.y 16 rfl (by kernel_rfl) (fun _ _ _ => ym rfl) rfl (WD.y 17 rfl (by kernel_rfl) (fun _ _ _ => Y.add_i rfl rfl) rfl ?_))))
                  obtain ⟨e663, he663, h⟩ := bnd h
                  obtain ⟨b664, cap671, cs670, hv665, hi666, hl667, hc668, hok669⟩ := OwnSl.at hf646 he663
                  obtain ⟨_, _, rfl, rfl, rfl⟩ := hok669
                  replace hc668 : CellsAt _ _ _ [vs e663.Key, vs e663.Val] := hc668
                  have hca672 := CAt.own hf646 hv665 hc668
                  refine WD.y 18 rfl (by kernel_rfl) (fun _ _ _ => Y.indexAddr ty25 ty65 rfl hv665 rfl hi666 hl667) rfl ?_
                  obtain ⟨p676, h, hk677⟩ := bnd h
                  refine WD.join (σ := Unit) (f' := 4) [19, 18, 17, 16, 15, 14, 13, 12, 11, 10, 9, 8, 7, 6, 5, 4, 3, 2, 1, 0] (fun x O' w' => () = p676 ∧ wd599 = w' ∧ O583 = O') (fun x => [(0, v0), (1, vi (w64 (a2 - i540))), (2, vi a2), (3, vi j541), (10, vi i582), (16, v0), (19, vi (w64 ((w64 (a2 - i540)) + i582))), (20, v0), (23, vi (w64 (a2 + i582))), (29, ag [vs e637.Key, vs e637.Val]), (35, ag [vs e663.Key, vs e663.Val])]) (fun hJ678 => ?_) ?_
                  ·refine WD.heavy2 13 19 rfl rfl (by kernel_rfl) ?_ ?_
                   ·refine wY (yL ty65 rfl rfl hca647.at_ rfl) rfl (nl (At.dq (sr_ _ _ _) (WD.heavy 19 rfl (by kernel_rfl) (wY (yL ty65 rfl rfl hca672.at_ rfl) rfl (nl (At.dq (sr_ _ _ _) (WD.perm _ [19, 18, 17, 16, 15, 14, 13, 12, 11, 10, 9, 8, 7, 6, 5, 4, 3, 2, 1, 0] (by kernel_rfl) ?_)))))))
                    exact hJ678 () _ _ _ ⟨rfl, rfl, rfl⟩ (.cons rfl (.cons rfl (.cons rfl (.cons rfl (.cons rfl (.cons rfl (.cons rfl (.cons rfl (.cons rfl (.cons rfl (.cons rfl .nil)))))))))))
                   ·try simp only [Option.bind_assoc] at h
                    try simp only [Option.bind_some] at h
                    refine wY (yL ty65 rfl rfl hca672.at_ rfl) rfl (nl (At.dq (sr_ _ _ _) (WD.heavy 13 rfl (by kernel_rfl) (wY (yL ty65 rfl rfl hca647.at_ rfl) rfl (nl (At.dq (sr_ _ _ _) (WD.perm _ [19, 18, 17, 16, 15, 14, 13, 12, 11, 10, 9, 8, 7, 6, 5, 4, 3, 2, 1, 0] (by kernel_rfl) ?_)))))))
                    exact hJ678 () _ _ _ ⟨rfl, rfl, rfl⟩ (.cons rfl (.cons rfl (.cons rfl (.cons rfl (.cons rfl (.cons rfl (.cons rfl (.cons rfl (.cons rfl (.cons rfl (.cons rfl .nil)))))))))))
                  ·rintro _ _ _ ⟨rfl, rfl, rfl⟩
                   replace h := hk677
                   refine (show WD _ _ _ _ _ _ _ _ [(0, v0), (1, vi (w64 (a2 - i540))), (2, vi a2), (3, vi j541), (10, vi i582), (16, v0), (19, vi (w64 ((w64 (a2 - i540)) + i582))), (20, v0), (23, vi (w64 (a2 + i582))), (29, ag [vs e637.Key, vs e637.Val]), (35, ag [vs e663.Key, vs e663.Val])] _ _ from ?_)
                   obtain ⟨e679, he679, h⟩ := bnd h
                   obtain ⟨b680, cap687, cs686, hv681, hi682, hl683, hc684, hok685⟩ := OwnSl.at hf646 he679
                   obtain ⟨_, _, rfl, rfl, rfl⟩ := hok685
                   replace hc684 : CellsAt _ _ _ [vs e679.Key, vs e679.Val] := hc684
                   have hca688 := CAt.own hf646 hv681 hc684
                   refine WD.y 20 rfl (by kernel_rfl) (fun _ _ _ => Y.indexAddr ty25 ty65 rfl hv681 rfl hi682 hl683) rfl (WD.heavy 21 rfl (by kernel_rfl) ?_)
                   obtain ⟨xs692, hxs692, h⟩ := bnd h
                   refine WL.storeOwn (R := rep_api_Pair) (u := e637) (by decide) ty65 rfl rfl ⟨[vs e637.Key], [vs e637.Val], rfl, rfl, rfl⟩ hf646 hv681 hxs692 ?_
                   intro wd693 hst694 ho695
                   refine nl (At.dq (su_ hst694 rfl) ?_)
                   obtain ⟨e696, he696, h⟩ := bnd h
                   obtain ⟨b697, cap704, cs703, hv698, hi699, hl700, hc701, hok702⟩ := OwnSl.at ho695 he696
                   obtain ⟨_, _, rfl, rfl, rfl⟩ := hok702
                   replace hc701 : CellsAt _ _ _ [vs e696.Key, vs e696.Val] := hc701
                   have hca705 := CAt.own ho695 hv698 hc701
                   refine WD.y 22 rfl (by kernel_rfl) (fun _ _ _ => Y.indexAddr ty25 ty65 rfl hv698 rfl hi699 hl700) rfl (WD.phase [3] [0, 1, 2, 3, 4, 5, 6, 7, 8, 9, 10, 11, 12, 13, 14, 15, 16, 17, 18, 19, 20, 21, 22, 23] (by kernel_rfl) (by kernel_rfl) (WD.heavy 23 rfl (by kernel_rfl) ?_))
                   obtain ⟨xs709, hxs709, h⟩ := bnd h
                   refine WL.storeOwn (R := rep_api_Pair) (u := e663) (by decide) ty65 rfl rfl ⟨[vs e663.Key], [vs e663.Val], rfl, rfl, rfl⟩ ho695 hv698 hxs709 ?_
                   intro wd710 hst711 ho712
                   refine nl (At.dq (su_ hst711 rfl) (WD.done_ (by kernel_rfl) (At.inBlock (th (rg (wY (ym rfl) rfl (wY (Y.add_i rfl rfl) rfl ?_)))))))
                   obtain ⟨i713, hi713, h⟩ := lt1 h
                   refine WL.yE (ya rfl) (congrArg vi hi713.symm) rfl (nl ?_)
                   exact At.round (xs709, i713, O583) j595 (Nat.lt_succ_self _) ⟨next1 h hn597, (tr_ (su_ hst585 rfl) (tr_ (su_ hst600 rfl) (tr_ (su_ hst694 rfl) (su_ hst711 rfl)))), ho712⟩ (.cons rfl (.cons rfl (.cons rfl (.cons rfl (.cons rfl .nil)))))
                 ·refine WC.condF' rfl hc598 (WC.exit (At.thenX (At.loopX ?_)))
                  exact At.hitB (σ := (List api_Pair × Own)) (data579, O583) ⟨brk1 h hn597, (su_ hst585 rfl), hf581⟩ .nil
                ·rintro ⟨x586, O589⟩ wd590 ⟨rfl, hst591, hf588⟩
                 replace h := flowK_go hk594
                 try dsimp only at h hst591 hf588
                 refine (show At _ _ _ [] _ from ?_)
                 refine At.inBlockHit ?_
                 exact At.res (.inr rfl) rfl .nil ⟨(x586, O589), ⟨some1 h, (su_ hst591 rfl), hf588⟩, rfl⟩
               ·rintro ⟨data571, O574⟩ wd575 ⟨rfl, hst576, hf573⟩
                replace h := hk578
                try dsimp only at h hst576 hf573
                refine (show WL _ _ _ _ _ ((31, tp []) :: _) _ from ?_)
                refine nl (th (rg (wY (ym rfl) rfl (wY (ym rfl) rfl (wY (Y.sub_i rfl rfl) rfl ?_)))))
                obtain ⟨i714, hi714, h⟩ := lt1 h
                refine WL.yE (ya rfl) (congrArg vi hi714.symm) rfl (nl (At.inBlock ?_))
                exact At.join (σ := (List api_Pair × Int × Int × Own)) (data571, i714, j541, O574) ⟨some1 h, (su_ hst576 rfl), hf573⟩ (.cons rfl (.cons rfl (.cons rfl (.cons rfl (.cons rfl .nil)))))
              ·refine WC.condF' rfl hc570 (sq (rg (wY (ym rfl) rfl (wY (ym rfl) rfl (wY (ym rfl) rfl (wY (Y.sub_i rfl rfl) rfl (wY (ym rfl) rfl (wY (ym rfl) rfl (wY (Y.add_i rfl rfl) rfl ?_)))))))))
               refine wY (ym rfl) rfl (wY (Y.sub_i rfl rfl) rfl (wY (ym rfl) rfl (wY (ym rfl) rfl ?_)))
               obtain ⟨p721, h, hk722⟩ := bnd h
               refine WL.callJ (vals := [v0, vi (w64 (a2 - i540)), vi (w64 ((w64 (a2 + j541)) - i540)), vi i540, Value.func (.func 106) (List.toArray []) (List.toArray [])]) (σ := (List api_Pair × Own)) (fun x w' => x.1 = p721 ∧ Stp [3] O542 wd543 x.2 w' ∧ OwnSl 3 rep_api_Pair 65 x.2 w' v0 x.1) (fun x => tp []) kok128 rfl rfl ?_ ?_
               ·refine Rets.enter Try.func128 rfl rfl ?_
                refine (show WC _ _ _ _ [(0, v0), (1, vi (w64 (a2 - i540))), (2, vi (w64 ((w64 (a2 + j541)) - i540))), (3, vi i540), (4, Value.func (.func 106) (List.toArray []) (List.toArray []))] _ from ?_)
                refine sq (rg (wY (ya rfl) rfl (nl (th (WC.block ?_)))))
                obtain ⟨p736, h, hk738⟩ := flow1 h
                obtain ⟨k737, h⟩ := loop_some h
                refine WC.joinB 0 (σ := (List api_Pair × Own)) (fun x w' => p736 = .go x.1 ∧ Stp [3] O542 wd543 x.2 w' ∧ OwnSl 3 rep_api_Pair 65 x.2 w' v0 x.1) (fun x => []) ?_ ?_
                ·refine WC.loop (σ := (List api_Pair × Int × Own)) (fun x k w' => loopN k (slices_symMergeCmpFunc_api_Pair_lp8 a2 i540 j541) (x.1, x.2.1) = some p736 ∧ Stp [3] O542 wd543 x.2.2 w' ∧ OwnSl 3 rep_api_Pair 65 x.2.2 w' v0 x.1) (fun x => [(0, v0), (1, vi (w64 (a2 - i540))), (2, vi (w64 ((w64 (a2 + j541)) - i540))), (3, vi i540), (10, vi x.2.1)]) (data537, 0, O542) k737 (.cons rfl (.cons rfl (.cons rfl (.cons rfl (.cons rfl .nil))))) ⟨h, (sr_ _ _ _), hf539⟩ ?_
                 rintro ⟨data723, i726, O727⟩ k737 wd728 ⟨h, hst729, hf725⟩
                 obtain ⟨j739, q740, rfl, h, hn741⟩ := rnd1 h
                 unfold slices_symMergeCmpFunc_api_Pair_lp8 at h
                 try dsimp only at h hst729 hf725
                 refine (show WC _ _ _ _ [(0, v0), (1, vi (w64 (a2 - i540))), (2, vi (w64 ((w64 (a2 + j541)) - i540))), (3, vi i540), (10, vi i726)] _ from ?_)
                 refine sq (sq (rg (wY (ym rfl) rfl (wY (ym rfl) rfl (wY (Y.lss_i rfl rfl) rfl (nl (th ?_)))))))
                 rcases cnd h with ⟨hc742, h⟩ | ⟨hc742, h⟩
                 ·refine WC.condT' rfl hc742 (sk (th (sq (WC.block (WC.drawH [3] [0, 1, 2, 3, 4, 5, 6, 7, 8, 9, 10, 11, 12, 13, 14, 15, 16, 17, 18, 19, 20, 21, 22] O727 24 fmix rfl (by kernel_rfl) ?_)))))
                  intro wd743 hst744
                  refine WD.y 0 rfl (by kernel_rfl) (fun _ _ _ => ym rfl) rfl (WD.y 1 rfl (by kernel_rfl) (fun _ _ _ => ym rfl) rfl (WD.y 2 rfl (by kernel_rfl) (fun _ _ _ => ym rfl) rfl (WD.y 3 rfl (by kernel_rfl) (fun _ _ _ => Y.add_i rfl rfl) rfl (WD.y 4 rfl (by kernel_rfl) (fun _ _ _ => ym rfl) rfl (WD.y 5 rfl (by kernel_rfl) (fun _ _ _ => ym rfl) rfl (WD.y 6 rfl (by kernel_rfl) (fun _ _ _ => ym rfl) rfl (WD.y 7 rfl (by kernel_rfl) (fun _ _ _ => Y.add_i rfl rfl) rfl (WD.y 8 rfl (by kernel_rfl) (fun _ _ _ => ym rfl) rfl (WD.y 9 rfl (by kernel_rfl) (fun _ _ _ => ym rfl) rfl ?_)))))))))
                  refine WD.y 10 rfl (by kernel_rfl) (fun _ _ _ => ym rfl) rfl (WD.y 11 rfl (by kernel_rfl) (fun _ _ _ => Y.add_i rfl rfl) rfl ?_)
                  obtain ⟨e781, he781, h⟩ := bnd h
                  have hf790 := hf725.st hst744 rfl rfl rfl
                  obtain ⟨b782, cap789, cs788, hv783, hi784, hl785, hc786, hok787⟩ := OwnSl.at hf790 he781
                  obtain ⟨_, _, rfl, rfl, rfl⟩ := hok787
                  replace hc786 : CellsAt _ _ _ [vs e781.Key, vs e781.Val] := hc786
                  have hca791 := CAt.own hf790 hv783 hc786
                  refine WD.y 12 rfl (by kernel_rfl) (fun _ _ _ => Y.indexAddr ty25 ty65 rfl hv783 rfl hi784 hl785) rfl (WD.y 14 rfl (by kernel_rfl) (fun _ _ _ => ym rfl) rfl (WD.y 15 rfl (by kernel_rfl) (fun _ _ _ => ym rfl) rfl (WD.y 16 rfl (by kernel_rfl) (fun _ _ _ => ym rfl) rfl (WD.y 17 rfl (by kernel_rfl) (fun _ _ _ => Y.add_i rfl rfl) rfl ?_))))
                  obtain ⟨e807, he807, h⟩ := bnd h
                  obtain ⟨b808, cap815, cs814, hv809, hi810, hl811, hc812, hok813⟩ := OwnSl.at hf790 he807
                  obtain ⟨_, _, rfl, rfl, rfl⟩ := hok813
                  replace hc812 : CellsAt _ _ _ [vs e807.Key, vs e807.Val] := hc812
                  have hca816 := CAt.own hf790 hv809 hc812
                  refine WD.y 18 rfl (by kernel_rfl) (fun _ _ _ => Y.indexAddr ty25 ty65 rfl hv809 rfl hi810 hl811) rfl ?_
                  obtain ⟨p820, h, hk821⟩ := bnd h
                  refine WD.join (σ := Unit) (f' := 4) [19, 18, 17, 16, 15, 14, 13, 12, 11, 10, 9, 8, 7, 6, 5, 4, 3, 2, 1, 0] (fun x O' w' => () = p820 ∧ wd743 = w' ∧ O727 = O') (fun x => [(0, v0), (1, vi (w64 (a2 - i540))), (2, vi (w64 ((w64 (a2 + j541)) - i540))), (3, vi i540), (10, vi i726), (16, v0), (19, vi (w64 ((w64 (a2 - i540)) + i726))), (20, v0), (23, vi (w64 ((w64 ((w64 (a2 + j541)) - i540)) + i726))), (29, ag [vs e781.Key, vs e781.Val]), (35, ag [vs e807.Key, vs e807.Val])]) (fun hJ822 => ?_) ?_
                  ·refine WD.heavy2 13 19 rfl rfl (by kernel_rfl) ?_ ?_
                   ·refine wY (yL ty65 rfl rfl hca791.at_ rfl) rfl (nl (At.dq (sr_ _ _ _) (WD.heavy 19 rfl (by kernel_rfl) (wY (yL ty65 rfl rfl hca816.at_ rfl) rfl (nl (At.dq (sr_ _ _ _) (WD.perm _ [19, 18, 17, 16, 15, 14, 13, 12, 11, 10, 9, 8, 7, 6, 5, 4, 3, 2, 1, 0] (by kernel_rfl) ?_)))))))
                    exact hJ822 () _ _ _ ⟨rfl, rfl, rfl⟩ (.cons rfl (.cons rfl (.cons rfl (.cons rfl (.cons rfl (.cons rfl (.cons rfl (.cons rfl (.cons rfl (.cons rfl (.cons rfl .nil)))))))))))
                   ·try simp only [Option.bind_assoc] at h
                    try simp only [Option.bind_some] at h
                    refine wY (yL ty65 rfl rfl hca816.at_ rfl) rfl (nl (At.dq (sr_ _ _ _) (WD.heavy 13 rfl (by kernel_rfl) (wY (yL ty65 rfl rfl hca791.at_ rfl) rfl (nl (At.dq (sr_ _ _ _) (WD.perm _ [19, 18, 17, 16, 15, 14, 13, 12, 11, 10, 9, 8, 7, 6, 5, 4, 3, 2, 1, 0] (by kernel_rfl) ?_)))))))
                    exact hJ822 () _ _ _ ⟨rfl, rfl, rfl⟩ (.cons rfl (.cons rfl (.cons rfl (.cons rfl (.cons rfl (.cons rfl (.cons rfl (.cons rfl (.cons rfl (.cons rfl (.cons rfl .nil)))))))))))
                  ·rintro _ _ _ ⟨rfl, rfl, rfl⟩
                   replace h := hk821
                   refine (show WD _ _ _ _ _ _ _ _ [(0, v0), (1, vi (w64 (a2 - i540))), (2, vi (w64 ((w64 (a2 + j541)) - i540))), (3, vi i540), (10, vi i726), (16, v0), (19, vi (w64 ((w64 (a2 - i540)) + i726))), (20, v0), (23, vi (w64 ((w64 ((w64 (a2 + j541)) - i540)) + i726))), (29, ag [vs e781.Key, vs e781.Val]), (35, ag [vs e807.Key, vs e807.Val])] _ _ from ?_)
                   obtain ⟨e823, he823, h⟩ := bnd h
                   obtain ⟨b824, cap831, cs830, hv825, hi826, hl827, hc828, hok829⟩ := OwnSl.at hf790 he823
                   obtain ⟨_, _, rfl, rfl, rfl⟩ := hok829
                   replace hc828 : CellsAt _ _ _ [vs e823.Key, vs e823.Val] := hc828
                   have hca832 := CAt.own hf790 hv825 hc828
                   refine WD.y 20 rfl (by kernel_rfl) (fun _ _ _ => Y.indexAddr ty25 ty65 rfl hv825 rfl hi826 hl827) rfl (WD.heavy 21 rfl (by kernel_rfl) ?_)
                   obtain ⟨xs836, hxs836, h⟩ := bnd h
                   refine WL.storeOwn (R := rep_api_Pair) (u := e781) (by decide) ty65 rfl rfl ⟨[vs e781.Key], [vs e781.Val], rfl, rfl, rfl⟩ hf790 hv825 hxs836 ?_
                   intro wd837 hst838 ho839
                   refine nl (At.dq (su_ hst838 rfl) ?_)
                   obtain ⟨e840, he840, h⟩ := bnd h
                   obtain ⟨b841, cap848, cs847, hv842, hi843, hl844, hc845, hok846⟩ := OwnSl.at ho839 he840
                   obtain ⟨_, _, rfl, rfl, rfl⟩ := hok846
                   replace hc845 : CellsAt _ _ _ [vs e840.Key, vs e840.Val] := hc845
                   have hca849 := CAt.own ho839 hv842 hc845
                   refine WD.y 22 rfl (by kernel_rfl) (fun _ _ _ => Y.indexAddr ty25 ty65 rfl hv842 rfl hi843 hl844) rfl (WD.phase [3] [0, 1, 2, 3, 4, 5, 6, 7, 8, 9, 10, 11, 12, 13, 14, 15, 16, 17, 18, 19, 20, 21, 22, 23] (by kernel_rfl) (by kernel_rfl) (WD.heavy 23 rfl (by kernel_rfl) ?_))
                   obtain ⟨xs853, hxs853, h⟩ := bnd h
                   refine WL.storeOwn (R := rep_api_Pair) (u := e807) (by decide) ty65 rfl rfl ⟨[vs e807.Key], [vs e807.Val], rfl, rfl, rfl⟩ ho839 hv842 hxs853 ?_
                   intro wd854 hst855 ho856
                   refine nl (At.dq (su_ hst855 rfl) (WD.done_ (by kernel_rfl) (At.inBlock (th (rg (wY (ym rfl) rfl (wY (Y.add_i rfl rfl) rfl ?_)))))))
                   obtain ⟨i857, hi857, h⟩ := lt1 h
                   refine WL.yE (ya rfl) (congrArg vi hi857.symm) rfl (nl ?_)
                   exact At.round (xs853, i857, O727) j739 (Nat.lt_succ_self _) ⟨next1 h hn741, (tr_ (su_ hst729 rfl) (tr_ (su_ hst744 rfl) (tr_ (su_ hst838 rfl) (su_ hst855 rfl)))), ho856⟩ (.cons rfl (.cons rfl (.cons rfl (.cons rfl (.cons rfl .nil)))))
                 ·refine WC.condF' rfl hc742 (WC.exit (At.thenX (At.loopX ?_)))
                  exact At.hitB (σ := (List api_Pair × Own)) (data723, O727) ⟨brk1 h hn741, (su_ hst729 rfl), hf725⟩ .nil
                ·rintro ⟨x730, O733⟩ wd734 ⟨rfl, hst735, hf732⟩
                 replace h := flowK_go hk738
                 try dsimp only at h hst735 hf732
                 refine (show At _ _ _ [] _ from ?_)
                 refine At.inBlockHit ?_
                 exact At.res (.inr rfl) rfl .nil ⟨(x730, O733), ⟨some1 h, (su_ hst735 rfl), hf732⟩, rfl⟩
               ·rintro ⟨data715, O718⟩ wd719 ⟨rfl, hst720, hf717⟩
                replace h := hk722
                try dsimp only at h hst720 hf717
                refine (show WL _ _ _ _ _ ((46, tp []) :: _) _ from ?_)
                refine nl (th (rg (wY (ym rfl) rfl (wY (ym rfl) rfl (wY (Y.sub_i rfl rfl) rfl ?_)))))
                obtain ⟨j858, hj858, h⟩ := lt1 h
                refine WL.yE (ya rfl) (congrArg vi hj858.symm) rfl (nl (At.inBlock ?_))
                exact At.join (σ := (List api_Pair × Int × Int × Own)) (data715, i540, j858, O718) ⟨some1 h, (su_ hst720 rfl), hf717⟩ (.cons rfl (.cons rfl (.cons rfl (.cons rfl (.cons rfl .nil)))))
             ·rintro ⟨data560, i563, j564, O565⟩ wd566 ⟨rfl, hst567, hf562⟩
              replace h := hk569
              try dsimp only at h hst567 hf562
              refine (show At _ _ _ [(0, v0), (2, vi a2), (4, Value.func (.func 106) (List.toArray []) (List.toArray [])), (10, vi i563), (11, vi j564)] _ from ?_)
              exact At.round (data560, i563, j564, O565) j556 (Nat.lt_succ_self _) ⟨next1 h hn558, (tr_ (su_ hst544 rfl) (su_ hst567 rfl)), hf562⟩ (.cons rfl (.cons rfl (.cons rfl (.cons rfl (.cons rfl .nil)))))
            ·refine WC.condF' rfl hc559 (WC.exit (At.thenX (At.loopX ?_)))
             exact At.hitB (σ := (List api_Pair × Int × Own)) (data537, i540, O542) ⟨brk1 h hn558, (su_ hst544 rfl), hf539⟩ (.cons rfl (.cons rfl (.cons rfl (.cons rfl .nil))))
           ·rintro ⟨data545, i548, O549⟩ wd550 ⟨rfl, hst551, hf547⟩
            replace h := flowK_go hk554
            try dsimp only at h hst551 hf547
            refine (show At _ _ _ [(0, v0), (2, vi a2), (4, Value.func (.func 106) (List.toArray []) (List.toArray [])), (10, vi i548)] _ from ?_)
            refine At.inBlockHit ?_
            exact At.join (σ := (List api_Pair × Int × Own)) (data545, i548, O549) ⟨some1 h, (su_ hst551 rfl), hf547⟩ (.cons rfl (.cons rfl (.cons rfl (.cons rfl .nil))))
          ·rintro ⟨data528, i531, O532⟩ wd533 ⟨rfl, hst534, hf530⟩
           replace h := hk536
           try dsimp only at h hst534 hf530
           refine (show At _ _ _ [(0, v0), (2, vi a2), (4, Value.func (.func 106) (List.toArray []) (List.toArray [])), (10, vi i531)] _ from ?_)
           refine th (rg (wY (ym rfl) rfl (wY (ym rfl) rfl (wY (ym rfl) rfl (wY (Y.sub_i rfl rfl) rfl (wY (ym rfl) rfl (wY (ym rfl) rfl (wY (ym rfl) rfl ?_))))))))
           obtain ⟨p865, h, hk866⟩ := bnd h
           refine WL.callJ (vals := [v0, vi (w64 (a2 - i531)), vi a2, vi i531, Value.func (.func 106) (List.toArray []) (List.toArray [])]) (σ := (List api_Pair × Own)) (fun x w' => x.1 = p865 ∧ Stp [3] O532 wd533 x.2 w' ∧ OwnSl 3 rep_api_Pair 65 x.2 w' v0 x.1) (fun x => tp []) kok128 rfl rfl ?_ ?_
           ·refine Rets.enter Try.func128 rfl rfl ?_
            refine (show WC _ _ _ _ [(0, v0), (1, vi (w64 (a2 - i531))), (2, vi a2), (3, vi i531), (4, Value.func (.func 106) (List.toArray []) (List.toArray []))] _ from ?_)
            refine sq (rg (wY (ya rfl) rfl (nl (th (WC.block ?_)))))
            obtain ⟨p880, h, hk882⟩ := flow1 h
            obtain ⟨k881, h⟩ := loop_some h
            refine WC.joinB 0 (σ := (List api_Pair × Own)) (fun x w' => p880 = .go x.1 ∧ Stp [3] O532 wd533 x.2 w' ∧ OwnSl 3 rep_api_Pair 65 x.2 w' v0 x.1) (fun x => []) ?_ ?_
            ·refine WC.loop (σ := (List api_Pair × Int × Own)) (fun x k w' => loopN k (slices_symMergeCmpFunc_api_Pair_lp9 a2 i531) (x.1, x.2.1) = some p880 ∧ Stp [3] O532 wd533 x.2.2 w' ∧ OwnSl 3 rep_api_Pair 65 x.2.2 w' v0 x.1) (fun x => [(0, v0), (1, vi (w64 (a2 - i531))), (2, vi a2), (3, vi i531), (10, vi x.2.1)]) (data528, 0, O532) k881 (.cons rfl (.cons rfl (.cons rfl (.cons rfl (.cons rfl .nil))))) ⟨h, (sr_ _ _ _), hf530⟩ ?_
             rintro ⟨data867, i870, O871⟩ k881 wd872 ⟨h, hst873, hf869⟩
             obtain ⟨j883, q884, rfl, h, hn885⟩ := rnd1 h
             unfold slices_symMergeCmpFunc_api_Pair_lp9 at h
             try dsimp only at h hst873 hf869
             refine (show WC _ _ _ _ [(0, v0), (1, vi (w64 (a2 - i531))), (2, vi a2), (3, vi i531), (10, vi i870)] _ from ?_)
             refine sq (sq (rg (wY (ym rfl) rfl (wY (ym rfl) rfl (wY (Y.lss_i rfl rfl) rfl (nl (th ?_)))))))
             rcases cnd h with ⟨hc886, h⟩ | ⟨hc886, h⟩
             ·refine WC.condT' rfl hc886 (sk (th (sq (WC.block (WC.drawH [3] [0, 1, 2, 3, 4, 5, 6, 7, 8, 9, 10, 11, 12, 13, 14, 15, 16, 17, 18, 19, 20, 21, 22] O871 24 fmix rfl (by kernel_rfl) ?_)))))
              intro wd887 hst888
              refine WD.y 0 rfl (by kernel_rfl) (fun _ _ _ => ym rfl) rfl (WD.y 1 rfl (by kernel_rfl) (fun _ _ _ => ym rfl) rfl (WD.y 2 rfl (by kernel_rfl) (fun _ _ _ => ym rfl) rfl (WD.y 3 rfl (by kernel_rfl) (fun _ _ _ => Y.add_i rfl rfl) rfl (WD.y 4 rfl (by kernel_rfl) (fun _ _ _ => ym rfl) rfl (WD.y 5 rfl (by kernel_rfl) (fun _ _ _ => ym rfl) rfl (WD.y 6 rfl (by kernel_rfl) (fun _ _ _ => ym rfl) rfl (WD.y 7 rfl (by kernel_rfl) (fun _ _ _ => Y.add_i rfl rfl) rfl (WD.y 8 rfl (by kernel_rfl) (fun _ _ _ => ym rfl) rfl (WD.y 9 rfl (by kernel_rfl) (fun _ _ _ => ym rfl) rfl ?_)))))))))
              refine WD.y 10 rfl (by kernel_rfl) (fun _ _ _ => ym rfl) rfl (WD.y 11 rfl (by kernel_rfl) (fun _ _ _ => Y.add_i rfl rfl) rfl ?_)
              obtain ⟨e925, he925, h⟩ := bnd h
              have hf934 := hf869.st hst888 rfl rfl rfl
              obtain ⟨b926, cap933, cs932, hv927, hi928, hl929, hc930, hok931⟩ := OwnSl.at hf934 he925
              obtain ⟨_, _, rfl, rfl, rfl⟩ := hok931
              replace hc930 : CellsAt _ _ _ [vs e925.Key, vs e925.Val] := hc930
              have hca935 := CAt.own hf934 hv927 hc930
              refine WD.y 12 rfl (by kernel_rfl) (fun _ _ _ => Y.indexAddr ty25 ty65 rfl hv927 rfl hi928 hl929) rfl (WD.y 14 rfl (by kernel_rfl) (fun _ _ _ => ym rfl) rfl (WD.y 15 rfl (by kernel_rfl) (fun _ _ _ => ym rfl) rfl (WD.y 16 rfl (by kernel_rfl) (fun _ _ _ => ym rfl) rfl (WD.y 17 rfl (by kernel_rfl) (fun _ _ _ => Y.add_i rfl rfl) rfl ?_))))
              obtain ⟨e951, he951, h⟩ := bnd h
              obtain ⟨b952, cap959, cs958, hv953, hi954, hl955, hc956, hok957⟩ := OwnSl.at hf934 he951
              obtain ⟨_, _, rfl, rfl, rfl⟩ := hok957
              replace hc956 : CellsAt _ _ _ [vs e951.Key, vs e951.Val] := hc956
              have hca960 := CAt.own hf934 hv953 hc956
              refine WD.y 18 rfl (by kernel_rfl) (fun _ _ _ => Y.indexAddr ty25 ty65 rfl hv953 rfl hi954 hl955) rfl ?_
              obtain ⟨p964, h, hk965⟩ := bnd h
              refine WD.join (σ := Unit) (f' := 4) [19, 18, 17, 16, 15, 14, 13, 12, 11, 10, 9, 8, 7, 6, 5, 4, 3, 2, 1, 0] (fun x O' w' => () = p964 ∧ wd887 = w' ∧ O871 = O') (fun x => [(0, v0), (1, vi (w64 (a2 - i531))), (2, vi a2), (3, vi i531), (10, vi i870), (16, v0), (19, vi (w64 ((w64 (a2 - i531)) + i870))), (20, v0), (23, vi (w64 (a2 + i870))), (29, ag [vs e925.Key, vs e925.Val]), (35, ag [vs e951.Key, vs e951.Val])]) (fun hJ966 => ?_) ?_
              ·refine WD.heavy2 13 19 rfl rfl (by kernel_rfl) ?_ ?_
               ·refine wY (yL ty65 rfl rfl hca935.at_ rfl) rfl (nl (At.dq (sr_ _ _ _) (WD.heavy 19 rfl (by kernel_rfl) (wY (yL ty65 rfl rfl hca960.at_ rfl) rfl (nl (At.dq (sr_ _ _ _) (WD.perm _ [19, 18, 17, 16, 15, 14, 13, 12, 11, 10, 9, 8, 7, 6, 5, 4, 3, 2, 1, 0] (by kernel_rfl) ?_)))))))
                exact hJ966 () _ _ _ ⟨rfl, rfl, rfl⟩ (.cons rfl (.cons rfl (.cons rfl (.cons rfl (.cons rfl (.cons rfl (.cons rfl (.cons rfl (.cons rfl (.cons rfl (.cons rfl .nil)))))))))))
               ·try simp only [Option.bind_assoc] at h
                try simp only [Option.bind_some] at h
                refine wY (yL ty65 rfl rfl hca960.at_ rfl) rfl (nl (At.dq (sr_ _ _ _) (WD.heavy 13 rfl (by kernel_rfl) (wY (yL ty65 rfl rfl hca935.at_ rfl) rfl (nl (At.dq (sr_ _ _ _) (WD.perm _ [19, 18, 17, 16, 15, 14, 13, 12, 11, 10, 9, 8, 7, 6, 5, 4, 3, 2, 1, 0] (by kernel_rfl) ?_)))))))
                exact hJ966 () _ _ _ ⟨rfl, rfl, rfl⟩ (.cons rfl (.cons rfl (.cons rfl (.cons rfl (.cons rfl (.cons rfl (.cons rfl (.cons rfl (.cons rfl (.cons rfl (.cons rfl .nil)))))))))))
              ·rintro _ _ _ ⟨rfl, rfl, rfl⟩
               replace h := hk965
               refine (show WD _ _ _ _ _ _ _ _ [(0, v0), (1, vi (w64 (a2 - i531))), (2, vi a2), (3, vi i531), (10, vi i870), (16, v0), (19, vi (w64 ((w64 (a2 - i531)) + i870))), (20, v0), (23, vi (w64 (a2 + i870))), (29, ag [vs e925.Key, vs e925.Val]), (35, ag [vs e951.Key, vs e951.Val])] _ _ from ?_)
               obtain ⟨e967, he967, h⟩ := bnd h
               obtain ⟨b968, cap975, cs974, hv969, hi970, hl971, hc972, hok973⟩ := OwnSl.at hf934 he967
               obtain ⟨_, _, rfl, rfl, rfl⟩ := hok973
               replace hc972 : CellsAt _ _ _ [vs e967.Key, vs e967.Val] := hc972
               have hca976 := CAt.own hf934 hv969 hc972
               refine WD.y 20 rfl (by kernel_rfl) (fun _ _ _ => Y.indexAddr ty25 ty65 rfl hv969 rfl hi970 hl971) rfl (WD.heavy 21 rfl (by kernel_rfl) ?_)
               obtain ⟨xs980, hxs980, h⟩ := bnd h
               refine WL.storeOwn (R := rep_api_Pair) (u := e925) (by decide) ty65 rfl rfl ⟨[vs e925.Key], [vs e925.Val], rfl, rfl, rfl⟩ hf934 hv969 hxs980 ?_
               intro wd981 hst982 ho983
               refine nl (At.dq (su_ hst982 rfl) ?_)
               obtain ⟨e984, he984, h⟩ := bnd h
               obtain ⟨b985, cap992, cs991, hv986, hi987, hl988, hc989, hok990⟩ := OwnSl.at ho983 he984
               obtain ⟨_, _, rfl, rfl, rfl⟩ := hok990
               replace hc989 : CellsAt _ _ _ [vs e984.Key, vs e984.Val] := hc989
               have hca993 := CAt.own ho983 hv986 hc989
               refine WD.y 22 rfl (by kernel_rfl) (fun _ _ _ => Y.indexAddr ty25 ty65 rfl hv986 rfl hi987 hl988) rfl (WD.phase [3] [0, 1, 2, 3, 4, 5, 6, 7, 8, 9, 10, 11, 12, 13, 14, 15, 16, 17, 18, 19, 20, 21, 22, 23] (by kernel_rfl) (by kernel_rfl) (WD.heavy 23 rfl (by kernel_rfl) ?_))
               obtain ⟨xs997, hxs997, h⟩ := bnd h
               refine WL.storeOwn (R := rep_api_Pair) (u := e951) (by decide) ty65 rfl rfl ⟨[vs e951.Key], [vs e951.Val], rfl, rfl, rfl⟩ ho983 hv986 hxs997 ?_
               intro wd998 hst999 ho1000
               refine nl (At.dq (su_ hst999 rfl) (WD.done_ (by kernel_rfl) (At.inBlock (th (rg (wY (ym rfl) rfl (wY (Y.add_i rfl rfl) rfl ?_)))))))
               obtain ⟨i1001, hi1001, h⟩ := lt1 h
               refine WL.yE (ya rfl) (congrArg vi hi1001.symm) rfl (nl ?_)
               exact At.round (xs997, i1001, O871) j883 (Nat.lt_succ_self _) ⟨next1 h hn885, (tr_ (su_ hst873 rfl) (tr_ (su_ hst888 rfl) (tr_ (su_ hst982 rfl) (su_ hst999 rfl)))), ho1000⟩ (.cons rfl (.cons rfl (.cons rfl (.cons rfl (.cons rfl .nil)))))
             ·refine WC.condF' rfl hc886 (WC.exit (At.thenX (At.loopX ?_)))
              exact At.hitB (σ := (List api_Pair × Own)) (data867, O871) ⟨brk1 h hn885, (su_ hst873 rfl), hf869⟩ .nil
            ·rintro ⟨x874, O877⟩ wd878 ⟨rfl, hst879, hf876⟩
             replace h := flowK_go hk882
             try dsimp only at h hst879 hf876
             refine (show At _ _ _ [] _ from ?_)
             refine At.inBlockHit ?_
             exact At.res (.inr rfl) rfl .nil ⟨(x874, O877), ⟨some1 h, (su_ hst879 rfl), hf876⟩, rfl⟩
           ·rintro ⟨x859, O862⟩ wd863 ⟨rfl, hst864, hf861⟩
            replace h := hk866
            try dsimp only at h hst864 hf861
            refine (show WL _ _ _ _ _ ((57, tp []) :: _) _ from ?_)
            refine nl ?_
            exact At.res (.inr rfl) rfl .nil ⟨(x859, O862), ⟨some1 h, (tr_ (su_ hst534 rfl) (su_ hst864 rfl)), hf861⟩, rfl⟩
         ·rintro ⟨data518, O521⟩ wd522 ⟨rfl, hst523, hf520⟩
          replace h := hk525
          try dsimp only at h hst523 hf520
          refine (show WL _ _ _ _ _ ((191, tp []) :: _) _ from ?_)
          refine nl ?_
          exact At.join (σ := (List api_Pair × Own)) (data518, O521) ⟨some1 h, (su_ hst523 rfl), hf520⟩ (.cons rfl (.cons rfl (.cons rfl (.cons rfl (.cons rfl (.cons rfl (.cons rfl .nil)))))))
        ·refine WC.condF' rfl hc517 (sk ?_)
         have hf1002 := ho11.st hst428 rfl rfl rfl
         exact At.join (σ := (List api_Pair × Own)) (a0, O426) ⟨some1 h, (sr_ _ _ _), hf1002⟩ (.cons rfl (.cons rfl (.cons rfl (.cons rfl (.cons rfl (.cons rfl (.cons rfl .nil)))))))
      ·rintro ⟨data508, O511⟩ wd512 ⟨rfl, hst513, hf510⟩
       replace h := hk515
       try dsimp only at h hst513 hf510
       refine (show At _ _ _ [(0, v0), (1, vi a1), (3, vi a3), (4, Value.func (.func 106) (List.toArray []) (List.toArray [])), (18, vi mid416), (20, vi start425), (24, vi end507)] _ from ?_)
       refine th (sq ?_)
       obtain ⟨p1009, h, hk1010⟩ := bnd h
       refine WC.join (σ := (List api_Pair × Own)) (fun x w' => x.1 = p1009 ∧ Stp [3] O511 wd512 x.2 w' ∧ OwnSl 3 rep_api_Pair 65 x.2 w' v0 x.1) (fun x => [(0, v0), (3, vi a3), (4, Value.func (.func 106) (List.toArray []) (List.toArray [])), (18, vi mid416), (24, vi end507)]) ?_ ?_
       ·refine sq (rg (wY (ym rfl) rfl (wY (ym rfl) rfl (wY (Y.lss_i rfl rfl) rfl (wY (ym rfl) rfl ?_)))))
        refine WL.cut 4 (σ := Unit) (fun _ w' => wd512 = w') (fun _ => [(0, v0), (1, vi a1), (3, vi a3), (4, Value.func (.func 106) (List.toArray []) (List.toArray [])), (18, vi mid416), (20, vi start425), (24, vi end507), (199, vB ((decide (a1 < start425)) && (decide (start425 < mid416))))]) ?_ ?_
        ·refine WL.part 195 rfl (fun hE1011 => ?_) (fun hE1011 => ?_)
         ·refine ug rfl rfl (wY (ym rfl) rfl (ug rfl rfl (wY (ym rfl) rfl (ug rfl rfl (wY (Y.lss_i rfl rfl) rfl (wY (Y.pick (b := true) rfl rfl) rfl (WL.ren (v' := vB ((decide (a1 < start425)) && (decide (start425 < mid416)))) 199 rfl (congrArg vB (andT hE1011)) ?_)))))))
          exact nl (At.join () rfl (.cons rfl (.cons rfl (.cons rfl (.cons rfl (.cons rfl (.cons rfl (.cons rfl (.cons rfl .nil)))))))))
         ·refine WL.gS rfl rfl rfl rfl (WL.gS rfl rfl rfl rfl (WL.gS rfl rfl rfl rfl (wY (Y.pick (b := false) rfl rfl) rfl (WL.ren (v' := vB ((decide (a1 < start425)) && (decide (start425 < mid416)))) 199 rfl (congrArg vB (andF hE1011)) ?_))))
          exact nl (At.join () rfl (.cons rfl (.cons rfl (.cons rfl (.cons rfl (.cons rfl (.cons rfl (.cons rfl (.cons rfl .nil)))))))))
        ·rintro _ _ rfl
         refine (show WL _ _ _ _ _ [(0, v0), (1, vi a1), (3, vi a3), (4, Value.func (.func 106) (List.toArray []) (List.toArray [])), (18, vi mid416), (20, vi start425), (24, vi end507), (199, vB ((decide (a1 < start425)) && (decide (start425 < mid416))))] _ from ?_)
         refine nl (th ?_)
         rcases cnd h with ⟨hc1012, h⟩ | ⟨hc1012, h⟩
         ·refine WC.condT' rfl hc1012 (rg (wY (ym rfl) rfl (wY (ym rfl) rfl (wY (ym rfl) rfl (wY (ym rfl) rfl (wY (ym rfl) rfl ?_))))))
          obtain ⟨r1013, hp1014, h⟩ := bnd h
          refine WL.call (vals := [v0, vi a1, vi start425, vi mid416, Value.func (.func 106) (List.toArray []) (List.toArray [])]) kok126 rfl rfl (ih hf510.row hp1014) ?_
          rintro vr1018 wd1017 ⟨rfl, hm1016, f1015⟩
          obtain ⟨O1019, hold1020, hnew1021, hst1022⟩ := adopt O511 (fun k => 1) [3] hm1016 (memV hf510.labs rfl)
          have ho1023 : OwnSl 3 rep_api_Pair 65 O1019 wd1017 v0 r1013 := Row.start flat_api_Pair f1015 (fun k hk => (hold1020 k (hf510.labs k hk).2).trans (hf510.labs k hk).1)
          refine nl ?_
          exact At.join (σ := (List api_Pair × Own)) (r1013, O1019) ⟨some1 h, (su_ hst1022 rfl), ho1023⟩ (.cons rfl (.cons rfl (.cons rfl (.cons rfl (.cons rfl .nil)))))
         ·refine WC.condF' rfl hc1012 (sk ?_)
          exact At.join (σ := (List api_Pair × Own)) (data508, O511) ⟨some1 h, (sr_ _ _ _), hf510⟩ (.cons rfl (.cons rfl (.cons rfl (.cons rfl (.cons rfl .nil)))))
       ·rintro ⟨data1003, O1006⟩ wd1007 ⟨rfl, hst1008, hf1005⟩
        replace h := hk1010
        try dsimp only at h hst1008 hf1005
        refine (show At _ _ _ [(0, v0), (3, vi a3), (4, Value.func (.func 106) (List.toArray []) (List.toArray [])), (18, vi mid416), (24, vi end507)] _ from ?_)
        refine th (sq (rg (wY (ym rfl) rfl (wY (ym rfl) rfl (wY (Y.lss_i rfl rfl) rfl (wY (ym rfl) rfl ?_))))))
        refine WL.cut 4 (σ := Unit) (fun _ w' => wd1007 = w') (fun _ => [(0, v0), (3, vi a3), (4, Value.func (.func 106) (List.toArray []) (List.toArray [])), (18, vi mid416), (24, vi end507), (213, vB ((decide (mid416 < end507)) && (decide (end507 < a3))))]) ?_ ?_
        ·refine WL.part 209 rfl (fun hE1024 => ?_) (fun hE1024 => ?_)
         ·refine ug rfl rfl (wY (ym rfl) rfl (ug rfl rfl (wY (ym rfl) rfl (ug rfl rfl (wY (Y.lss_i rfl rfl) rfl (wY (Y.pick (b := true) rfl rfl) rfl (WL.ren (v' := vB ((decide (mid416 < end507)) && (decide (end507 < a3)))) 213 rfl (congrArg vB (andT hE1024)) ?_)))))))
          exact nl (At.join () rfl (.cons rfl (.cons rfl (.cons rfl (.cons rfl (.cons rfl (.cons rfl .nil)))))))
         ·refine WL.gS rfl rfl rfl rfl (WL.gS rfl rfl rfl rfl (WL.gS rfl rfl rfl rfl (wY (Y.pick (b := false) rfl rfl) rfl (WL.ren (v' := vB ((decide (mid416 < end507)) && (decide (end507 < a3)))) 213 rfl (congrArg vB (andF hE1024)) ?_))))
          exact nl (At.join () rfl (.cons rfl (.cons rfl (.cons rfl (.cons rfl (.cons rfl (.cons rfl .nil)))))))
        ·rintro _ _ rfl
         refine (show WL _ _ _ _ _ [(0, v0), (3, vi a3), (4, Value.func (.func 106) (List.toArray []) (List.toArray [])), (18, vi mid416), (24, vi end507), (213, vB ((decide (mid416 < end507)) && (decide (end507 < a3))))] _ from ?_)
         refine nl (th ?_)
         rcases cnd h with ⟨hc1025, h⟩ | ⟨hc1025, h⟩
         ·refine WC.condT' rfl hc1025 (rg (wY (ym rfl) rfl (wY (ym rfl) rfl (wY (ym rfl) rfl (wY (ym rfl) rfl (wY (ym rfl) rfl ?_))))))
          obtain ⟨r1026, hp1027, h⟩ := bnd h
          refine WL.call (vals := [v0, vi mid416, vi end507, vi a3, Value.func (.func 106) (List.toArray []) (List.toArray [])]) kok126 rfl rfl (ih hf1005.row hp1027) ?_
          rintro vr1031 wd1030 ⟨rfl, hm1029, f1028⟩
          obtain ⟨O1032, hold1033, hnew1034, hst1035⟩ := adopt O1006 (fun k => 1) [3] hm1029 (memV hf1005.labs rfl)
          have ho1036 : OwnSl 3 rep_api_Pair 65 O1032 wd1030 v0 r1026 := Row.start flat_api_Pair f1028 (fun k hk => (hold1033 k (hf1005.labs k hk).2).trans (hf1005.labs k hk).1)
          refine nl ?_
          obtain rfl := some1 h
          have hs1037 : Stp [3] (Lg.OV v0 3 (Lg.O0 (fun _ => False))) w O1032 wd1030 := (tr_ (su_ hst428 rfl) (tr_ (su_ hst513 rfl) (tr_ (su_ hst1008 rfl) (su_ hst1035 rfl))))
          exact At.res (.inr rfl) rfl .nil ⟨rfl, (Stp.modL hs1037 sV1 rfl rfl), ho1036.row⟩
         ·refine WC.condF' rfl hc1025 (sk ?_)
          obtain rfl := some1 h
          have hs1038 : Stp [3] (Lg.OV v0 3 (Lg.O0 (fun _ => False))) w O1006 wd1007 := (tr_ (su_ hst428 rfl) (tr_ (su_ hst513 rfl) (su_ hst1008 rfl)))
          exact At.res (.inr rfl) rfl .nil ⟨rfl, (Stp.modL hs1038 sV1 rfl rfl), hf1005.row⟩
theorem c_slices_symMergeCmpFunc_api_Pair {a0 : List api_Pair} {v0 : Value} {a1 : Int} {a2 : Int} {a3 : Int} {w : World} (hs0 : Row rep_api_Pair 65 w v0 a0) {q0 : List api_Pair} (h : slices_symMergeCmpFunc_api_Pair a0 a1 a2 a3 = some q0) : Rets Try.prog 126 [v0, vi a1, vi a2, vi a3, Value.func (.func 106) (List.toArray []) (List.toArray [])] w (fun v w' => v = tp [] ∧ Mod (fun k => ob v0 = some k) w w' ∧ Row rep_api_Pair 65 w' v0 q0) := by
  obtain ⟨k, hk⟩ := fuel_some h
  exact cN_slices_symMergeCmpFunc_api_Pair k hs0 hk
theorem c_label_Sorted {A : Nat → Prop} {a0 : List api_Pair} {v0 : Value} {w : World} (hs0 : Sl rep_api_Pair w A v0 a0) {r0 : List api_Pair} (h : label_Sorted a0 = some r0) : Rets Try.prog 87 [v0] w (fun v w' => ∃ (u0 : Value), v = u0 ∧ Ext w w' ∧ RowF rep_api_Pair 65 w w' u0 r0) := by
 unfold label_Sorted at h
 refine Rets.enter Try.func87 z z ?_
 have gO : Sl rep_api_Pair w (imm (Lg.O0 A)) v0 a0 := (Sl.start hs0)
 refine (show WC _ _ _ _ [(0, v0)] _ from ?_)
 refine sq (rg (wY (ya z) z (nl (th (sq (rg (wY (ym z) z ?_)))))))
 obtain ⟨e, gQ, h⟩ := bnd h
 refine WL.call (vals := [v0]) kok45 z z (c_slices_Clone_api_Pair_api_Pair (A := fun _ => True) (Sl.all gO) gQ) ?_
 rintro a ac ⟨_, rfl, gR, it⟩
 obtain ⟨ax, iu, cH, ei⟩ := adoptE (Lg.O0 A) (fun k => if ob a = some k then 11 else 1) gR
 have cI : OwnSl 11 rep_api_Pair 65 ax ac a e := RowF.adopt 11 flat_api_Pair it cH (fun k hk => if_pos hk)
 refine wY (ya z) z (nl (th (sq (rg (wY (ym z) z ?_)))))
 obtain ⟨iv, h, gU⟩ := bnd h
 refine WL.callJ (vals := [a, Value.func (.func 106) (List.toArray []) (List.toArray [])]) (σ := (List api_Pair × Own)) (fun x w' => x.1 = iv ∧ Stp [11, 1001, 1002, 1003, 1004, 1005, 1006, 1007, 1008, 1009, 1010, 1011, 1012, 1013, 1014, 1015, 1016, 1017, 1018, 1019, 1020, 1021, 1022, 1023] ax ac x.2 w' ∧ OwnSl 1025 rep_api_Pair 65 x.2 w' a x.1) (fun x => tp []) kok105 z z ?_ ?_
 ·refine Rets.enter Try.func105 z z ?_
  refine (show WC _ _ _ _ [(0, a), (1, Value.func (.func 106) (List.toArray []) (List.toArray []))] _ from ?_)
  refine rg (wY (ym z) z (wY (ym z) z (wY (Y.len ty25 z cI.src.sl) z (wY (ym z) z ?_))))
  obtain ⟨iw, h, gV⟩ := bnd h
  refine WL.callJ (vals := [a, vi (e.length : Int), Value.func (.func 106) (List.toArray []) (List.toArray [])]) (σ := (List api_Pair × Own)) (fun x w' => x.1 = iw ∧ Stp [11, 1001, 1002, 1003, 1004, 1005, 1006, 1007, 1008, 1009, 1010, 1011, 1012, 1013, 1014, 1015, 1016, 1017, 1018, 1019, 1020, 1021, 1022] ax ac x.2 w' ∧ OwnSl 1023 rep_api_Pair 65 x.2 w' a x.1) (fun x => tp []) kok119 z z ?_ ?_
  ·refine Rets.enter Try.func119 z z ?_
   refine (show WC _ _ _ _ [(0, a), (1, vi (e.length : Int)), (2, Value.func (.func 106) (List.toArray []) (List.toArray []))] _ from ?_)
   refine sq (rg (wY (ya z) z (nl (th (sq (rg (wY (ym z) z (wY (ya z) z (wY (ya z) z ?_)))))))))
   refine nl (th (sq ?_))
   obtain ⟨iy, h, gW⟩ := bnd h
   refine WC.join (σ := (List api_Pair × Int × Own)) (fun x w' => (x.1, x.2.1) = iy ∧ Stp [11, 1001, 1002, 1003, 1004, 1005, 1006, 1007, 1008] ax ac x.2.2 w' ∧ OwnSl 1009 rep_api_Pair 65 x.2.2 w' a x.1) (fun x => [(0, a), (1, vi (e.length : Int)), (2, Value.func (.func 106) (List.toArray []) (List.toArray [])), (6, vi 20), (7, vi x.2.1)]) ?_ ?_
   ·refine WC.block ?_
    obtain ⟨gI, h, gX⟩ := flow1 h
    obtain ⟨gJ, h⟩ := loop_some h
    refine WC.joinB 0 (σ := (List api_Pair × Int × Own)) (fun x w' => gI = .go (x.1, x.2.1) ∧ Stp [11, 1001, 1002, 1003, 1004, 1005, 1006, 1007] ax ac x.2.2 w' ∧ OwnSl 1008 rep_api_Pair 65 x.2.2 w' a x.1) (fun x => [(0, a), (1, vi (e.length : Int)), (2, Value.func (.func 106) (List.toArray []) (List.toArray [])), (6, vi 20), (7, vi x.2.1)]) ?_ ?_
    ·obtain ⟨iz, ej, gY⟩ := OwnSl.rlb 1007 rfl cI
     refine WC.loop (σ := (List api_Pair × Int × Int × Own)) (fun x k w' => loopN k (label_Sorted_lp1 e) (x.1, x.2.1, x.2.2.1) = some gI ∧ Stp [11, 1001, 1002, 1003, 1004, 1005, 1006, 1007] ax ac x.2.2.2 w' ∧ OwnSl 1007 rep_api_Pair 65 x.2.2.2 w' a x.1) (fun x => [(0, a), (1, vi (e.length : Int)), (2, Value.func (.func 106) (List.toArray []) (List.toArray [])), (6, vi 20), (7, vi x.2.1), (8, vi x.2.2.1)]) (e, 0, 20, iz) gJ (.cons z (.cons z (.cons z (.cons z (.cons z (.cons z .nil)))))) ⟨h, (su_ ej z), gY⟩ ?_
     rintro ⟨a9, j, l, cJ⟩ gJ bB ⟨h, aA, bC⟩
     obtain ⟨iA, kq, rfl, h, cK⟩ := rnd1 h
     unfold label_Sorted_lp1 at h
     try dsimp only at h aA bC
     refine (show WC _ _ _ _ [(0, a), (1, vi (e.length : Int)), (2, Value.func (.func 106) (List.toArray []) (List.toArray [])), (6, vi 20), (7, vi j), (8, vi l)] _ from ?_)
     refine sq (sq (rg (wY (ym z) z (wY (ym z) z (wY (Y.leq_i z z) z (nl (th ?_)))))))
     rcases cnd h with ⟨bD, h⟩ | ⟨bD, h⟩
     ·refine WC.condT' z bD (sk (th (WC.block (sq (rg (wY (ym z) z (wY (ym z) z (wY (ym z) z (wY (ym z) z ?_)))))))))
      obtain ⟨iB, h, gZ⟩ := bnd h
      refine WL.callJ (vals := [a, vi j, vi l, Value.func (.func 106) (List.toArray []) (List.toArray [])]) (σ := (List api_Pair × Own)) (fun x w' => x.1 = iB ∧ Stp [1001, 1002, 1003, 1004, 1005, 1007] cJ bB x.2 w' ∧ OwnSl 1006 rep_api_Pair 65 x.2 w' a x.1) (fun x => tp []) kok125 z z ?_ ?_
      ·refine Rets.enter Try.func125 z z ?_
       refine (show WC _ _ _ _ [(0, a), (1, vi j), (2, vi l), (3, Value.func (.func 106) (List.toArray []) (List.toArray []))] _ from ?_)
       refine sq (rg (wY (ym z) z (wY (Y.add_i z z) z ?_)))
       obtain ⟨iC, g0, h⟩ := lt1 h
       refine WL.yE (ya z) (congrArg vi g0.symm) z (nl (th (WC.block ?_)))
       obtain ⟨gK, h, g1⟩ := flow1 h
       obtain ⟨gL, h⟩ := loop_some h
       refine WC.joinB 0 (σ := (List api_Pair × Own)) (fun x w' => gK = .go x.1 ∧ Stp [1001, 1002, 1003, 1004, 1007] cJ bB x.2 w' ∧ OwnSl 1005 rep_api_Pair 65 x.2 w' a x.1) (fun x => []) ?_ ?_
       ·obtain ⟨iD, cL, ek⟩ := OwnSl.rlb 1004 rfl bC
        refine WC.loop (σ := (List api_Pair × Int × Own)) (fun x k w' => loopN k (label_Sorted_lp2 j l) (x.1, x.2.1) = some gK ∧ Stp [1001, 1002, 1003, 1004, 1007] cJ bB x.2.2 w' ∧ OwnSl 1004 rep_api_Pair 65 x.2.2 w' a x.1) (fun x => [(0, a), (1, vi j), (2, vi l), (3, Value.func (.func 106) (List.toArray []) (List.toArray [])), (8, vi x.2.1)]) (a9, iC, iD) gL (.cons z (.cons z (.cons z (.cons z (.cons z .nil))))) ⟨h, (su_ cL z), ek⟩ ?_
        rintro ⟨ba, P, cM⟩ gL bE ⟨h, aC, bG⟩
        obtain ⟨g2, jK, rfl, h, bM⟩ := rnd1 h
        unfold label_Sorted_lp2 at h
        try dsimp only at h aC bG
        refine (show WC _ _ _ _ [(0, a), (1, vi j), (2, vi l), (3, Value.func (.func 106) (List.toArray []) (List.toArray [])), (8, vi P)] _ from ?_)
        refine sq (sq (rg (wY (ym z) z (wY (ym z) z (wY (Y.lss_i z z) z (nl (th ?_)))))))
        rcases cnd h with ⟨aD, h⟩ | ⟨aD, h⟩
        ·refine WC.condT' z aD (sk (th (sq (WC.block (sq (rg (wY (ym z) z (wY (ya z) z (nl ?_)))))))))
         refine th ?_
         obtain ⟨g3, h, em⟩ := bnd h
         refine WC.join (σ := (List api_Pair × Own)) (fun x w' => x.1 = g3 ∧ Stp [1001, 1002, 1004] cM bE x.2 w' ∧ OwnSl 1003 rep_api_Pair 65 x.2 w' a x.1) (fun x => [(0, a), (1, vi j), (2, vi l), (3, Value.func (.func 106) (List.toArray []) (List.toArray [])), (8, vi P)]) ?_ ?_
         ·refine WC.block ?_
          obtain ⟨cN, h, en⟩ := flow1 h
          obtain ⟨cO, h⟩ := loop_some h
          refine WC.joinB 2 (σ := (List api_Pair × Own)) (fun x w' => cN = .go x.1 ∧ Stp [1001, 1004] cM bE x.2 w' ∧ OwnSl 1002 rep_api_Pair 65 x.2 w' a x.1) (fun x => [(0, a), (1, vi j), (2, vi l), (3, Value.func (.func 106) (List.toArray []) (List.toArray [])), (8, vi P)]) ?_ ?_
          ·obtain ⟨g4, cP, eo⟩ := OwnSl.rlb 1001 rfl bG
           refine WC.loop (σ := (List api_Pair × Int × Own)) (fun x k w' => loopN k (label_Sorted_lp3 j) (x.1, x.2.1) = some cN ∧ Stp [1001, 1004] cM bE x.2.2 w' ∧ OwnSl 1001 rep_api_Pair 65 x.2.2 w' a x.1) (fun x => [(0, a), (1, vi j), (2, vi l), (3, Value.func (.func 106) (List.toArray []) (List.toArray [])), (8, vi P), (9, vi x.2.1)]) (ba, P, g4) cO (.cons z (.cons z (.cons z (.cons z (.cons z (.cons z .nil)))))) ⟨h, (su_ cP z), eo⟩ ?_
           rintro ⟨cr, t, ak⟩ cO iX ⟨h, al, ae⟩
           obtain ⟨g5, jL, rfl, h, bO⟩ := rnd1 h
           unfold label_Sorted_lp3 at h
           try dsimp only at h al ae
           refine (show WC _ _ _ _ [(0, a), (1, vi j), (2, vi l), (3, Value.func (.func 106) (List.toArray []) (List.toArray [])), (8, vi P), (9, vi t)] _ from ?_)
           refine sq (sq (WC.drawH [] [0, 1, 2, 3, 4, 5, 6, 7, 8, 9, 10, 11, 12, 13, 14, 15, 16] ak 17 fmix z (by kernel_rfl) ?_))
           intro bP Q
           refine WD.y 0 z (by kernel_rfl) (fun _ _ _ => ym z) z (WD.y 1 z (by kernel_rfl) (fun _ _ _ => ym z) z (WD.y 2 z (by kernel_rfl) (fun _ _ _ => Y.gtr_i z z) z (WD.y 3 z (by kernel_rfl) (fun _ _ _ => ym z) z ?_)))
           obtain ⟨g6, h, ep⟩ := bnd h
           refine WD.join (σ := (Bool × Own)) (f' := 0) [16, 15, 14, 13, 12, 11, 10, 9, 8, 7, 6, 5, 4, 3, 2, 1, 0] (fun x O' w' => x.1 = g6 ∧ Stp [] ak bP x.2 w' ∧ x.2 = O') (fun x => [(0, a), (1, vi j), (2, vi l), (3, Value.func (.func 106) (List.toArray []) (List.toArray [])), (8, vi P), (9, vi t), (34, vB x.1)]) (fun bQ => ?_) ?_
           ·rcases cnd h with ⟨aa, h⟩ | ⟨aa, h⟩
            ·refine WD.ren 21 z (congrArg vB aa) (WD.gT 4 z (by kernel_rfl) z z (fun _ _ _ => ym z) z (WD.gT 5 z (by kernel_rfl) z z (fun _ _ _ => ym z) z (WD.gT 6 z (by kernel_rfl) z z (fun _ _ _ => ym z) z ?_)))
             obtain ⟨C, er, h⟩ := bnd h
             have af := ae.st Q z z z
             obtain ⟨jM, iE, iY, bR, es, et, aE, cQ⟩ := OwnSl.at af er
             obtain ⟨_, _, rfl, rfl, rfl⟩ := cQ
             replace aE : CellsAt _ _ _ [vs C.Key, vs C.Val] := aE
             have cR := CAt.own af bR aE
             refine WD.gT 7 z (by kernel_rfl) z z (fun _ _ _ => Y.indexAddr ty25 ty65 z bR z es et) z (WD.gT 8 z (by kernel_rfl) z z (fun iZ jN cS => have eu := cR.st cS z; yL ty65 z z eu.at_ z) z (WD.gT 9 z (by kernel_rfl) z z (fun _ _ _ => ym z) z (WD.gT 10 z (by kernel_rfl) z z (fun _ _ _ => ym z) z (WD.gT 11 z (by kernel_rfl) z z (fun _ _ _ => Y.sub_i z z) z ?_))))
             obtain ⟨D, ew, h⟩ := bnd h
             obtain ⟨jO, iF, i0, bS, ex, ey, aF, cT⟩ := OwnSl.at af ew
             obtain ⟨_, _, rfl, rfl, rfl⟩ := cT
             replace aF : CellsAt _ _ _ [vs D.Key, vs D.Val] := aF
             have cU := CAt.own af bS aF
             refine WD.gT 12 z (by kernel_rfl) z z (fun _ _ _ => Y.indexAddr ty25 ty65 z bS z ex ey) z (WD.gT 13 z (by kernel_rfl) z z (fun i1 jP cV => have ez := cU.st cV z; yL ty65 z z ez.at_ z) z (WD.heavy 14 z (by kernel_rfl) (ug z z ?_)))
             obtain ⟨g7, h, eA⟩ := bnd h
             refine WL.callV (fv := []) (cv := []) (vals := [ag [vs C.Key, vs C.Val], ag [vs D.Key, vs D.Val]]) (σ := (Int × Own)) (fun x w' => x.1 = g7 ∧ Stp [] ak bP x.2 w') (fun x => vi x.1) kok106 z z z ?_ ?_
             ·refine Rets.enter Try.func106 z z ?_
              refine (show WC _ _ _ _ [(0, ag [vs C.Key, vs C.Val]), (1, ag [vs D.Key, vs D.Val])] _ from ?_)
              refine sq (rg (WL.box (O := ak) 12 [vs C.Key, vs C.Val] z z z ?_))
              intro jQ g8 i2 cW eB
              refine WL.box (O := g8) 13 [vs D.Key, vs D.Val] z z z ?_
              intro jR g9 i3 bb eC
              refine wY (ya z) z (nl (th (sq (rg (wY (yf fo65_0 z) z ?_)))))
              have eD := eB.st bb z
              refine wY (yl ty9 z z (eD.cell 0 _ z)) z (wY (yf fo65_0 z) z (wY (yl ty9 z z (eC.cell 0 _ z)) z ?_))
              obtain ⟨ha, eE, h⟩ := bnd h
              refine WL.call (vals := [vs C.Key, vs D.Key]) kok107 z z (c_cmp_Compare_string eE) ?_
              rintro i4 i5 ⟨rfl, eF⟩
              obtain ⟨hc, il, im, cX⟩ := adoptE g9 (fun k => 1) eF
              refine wY (ya z) z (nl (th (rt ?_)))
              exact At.res (.inl z) z (.tmp z .nil) ⟨(ha, hc), ⟨some1 h, (tr_ (su_ cW z) (tr_ (su_ bb z) (su_ cX z)))⟩, z⟩
             ·rintro ⟨cY, hd⟩ i6 ⟨rfl, am⟩
              replace h := eA
              try dsimp only at h am
              refine (show WL _ _ _ _ _ ((32, vi cY) :: _) _ from ?_)
              refine nl (At.dq (su_ am z) (WD.gT 15 z (by kernel_rfl) z z (fun _ _ _ => Y.lss_i z z) z (WD.y 16 z (by kernel_rfl) (fun _ _ _ => Y.pick (b := true) z z) z (WD.ren 21 z (congrArg vB aa.symm) ?_))))
              exact bQ (decide (cY < 0), hd) _ _ _ ⟨some1 h, (su_ am z), z⟩ (.cons z (.cons z (.cons z (.cons z (.cons z (.cons z (.cons z .nil)))))))
            ·refine WD.ren 21 z (congrArg vB aa) (WD.gS 4 z (by kernel_rfl) z z z z (WD.gS 5 z (by kernel_rfl) z z z z (WD.gS 6 z (by kernel_rfl) z z z z (WD.gS 7 z (by kernel_rfl) z z z z (WD.gS 8 z (by kernel_rfl) z z z z (WD.gS 9 z (by kernel_rfl) z z z z (WD.gS 10 z (by kernel_rfl) z z z z (WD.gS 11 z (by kernel_rfl) z z z z (WD.gS 12 z (by kernel_rfl) z z z z ?_)))))))))
             refine WD.gS 13 z (by kernel_rfl) z z z z (WD.heavy 14 z (by kernel_rfl) (WL.gS z z z z (nl (At.dq (sr_ _ _ _) (WD.gS 15 z (by kernel_rfl) z z z z (WD.y 16 z (by kernel_rfl) (fun _ _ _ => Y.pick (b := false) z z) z (WD.ren 21 z (congrArg vB aa.symm) ?_)))))))
             exact bQ (false, ak) _ _ _ ⟨some1 h, (sr_ _ _ _), z⟩ (.cons z (.cons z (.cons z (.cons z (.cons z (.cons z (.cons z .nil)))))))
           ·rintro ⟨he, bH⟩ _ i7 ⟨rfl, S, rfl⟩
            replace h := ep
            try dsimp only at h S
            refine (show WD _ _ _ _ _ _ _ _ [(0, a), (1, vi j), (2, vi l), (3, Value.func (.func 106) (List.toArray []) (List.toArray [])), (8, vi P), (9, vi t), (34, vB he)] _ _ from ?_)
            refine WD.done_ (by kernel_rfl) (th ?_)
            rcases cnd h with ⟨aG, h⟩ | ⟨aG, h⟩
            ·refine WC.condT' z aG (sk (th (sq (WC.block (WC.drawH [1001] [0, 1, 2, 3, 4, 5, 6, 7, 8, 9, 10, 11, 12, 13, 14, 15, 16] bH 18 fmix z (by kernel_rfl) ?_)))))
             intro eG bc
             refine WD.y 0 z (by kernel_rfl) (fun _ _ _ => ym z) z (WD.y 1 z (by kernel_rfl) (fun _ _ _ => ym z) z (WD.y 2 z (by kernel_rfl) (fun _ _ _ => ym z) z (WD.y 3 z (by kernel_rfl) (fun _ _ _ => ym z) z (WD.y 4 z (by kernel_rfl) (fun _ _ _ => Y.sub_i z z) z (WD.y 5 z (by kernel_rfl) (fun _ _ _ => ym z) z (WD.y 6 z (by kernel_rfl) (fun _ _ _ => ym z) z (WD.y 7 z (by kernel_rfl) (fun _ _ _ => Y.sub_i z z) z ?_)))))))
             obtain ⟨E, eH, h⟩ := bnd h
             have F := ((ae.st Q z z z).st S z z z).st bc z z z
             obtain ⟨jS, iG, i8, bT, eK, eL, aH, cZ⟩ := OwnSl.at F eH
             obtain ⟨_, _, rfl, rfl, rfl⟩ := cZ
             replace aH : CellsAt _ _ _ [vs E.Key, vs E.Val] := aH
             have bd := CAt.own F bT aH
             refine WD.y 8 z (by kernel_rfl) (fun _ _ _ => Y.indexAddr ty25 ty65 z bT z eK eL) z (WD.y 10 z (by kernel_rfl) (fun _ _ _ => ym z) z (WD.y 11 z (by kernel_rfl) (fun _ _ _ => ym z) z ?_))
             obtain ⟨G, eM, h⟩ := bnd h
             obtain ⟨jT, iH, i9, bU, eN, eO, aI, c0⟩ := OwnSl.at F eM
             obtain ⟨_, _, rfl, rfl, rfl⟩ := c0
             replace aI : CellsAt _ _ _ [vs G.Key, vs G.Val] := aI
             have bf := CAt.own F bU aI
             refine WD.y 12 z (by kernel_rfl) (fun _ _ _ => Y.indexAddr ty25 ty65 z bU z eN eO) z ?_
             obtain ⟨hf, h, eP⟩ := bnd h
             refine WD.join (σ := Unit) (f' := 4) [13, 12, 11, 10, 9, 8, 7, 6, 5, 4, 3, 2, 1, 0] (fun x O' w' => () = hf ∧ eG = w' ∧ bH = O') (fun x => [(0, a), (1, vi j), (2, vi l), (3, Value.func (.func 106) (List.toArray []) (List.toArray [])), (8, vi P), (9, vi t), (37, a), (38, vi t), (39, a), (41, vi (w64 (t - 1))), (46, ag [vs E.Key, vs E.Val]), (50, ag [vs G.Key, vs G.Val])]) (fun bW => ?_) ?_
             ·refine WD.heavy2 9 13 z z (by kernel_rfl) ?_ ?_
              ·refine wY (yL ty65 z z bd.at_ z) z (nl (At.dq (sr_ _ _ _) (WD.heavy 13 z (by kernel_rfl) (wY (yL ty65 z z bf.at_ z) z (nl (At.dq (sr_ _ _ _) (WD.perm _ [13, 12, 11, 10, 9, 8, 7, 6, 5, 4, 3, 2, 1, 0] (by kernel_rfl) ?_)))))))
               exact bW () _ _ _ ⟨z, z, z⟩ (.cons z (.cons z (.cons z (.cons z (.cons z (.cons z (.cons z (.cons z (.cons z (.cons z (.cons z (.cons z .nil))))))))))))
              ·try simp only [Option.bind_assoc] at h
               try simp only [Option.bind_some] at h
               refine wY (yL ty65 z z bf.at_ z) z (nl (At.dq (sr_ _ _ _) (WD.heavy 9 z (by kernel_rfl) (wY (yL ty65 z z bd.at_ z) z (nl (At.dq (sr_ _ _ _) (WD.perm _ [13, 12, 11, 10, 9, 8, 7, 6, 5, 4, 3, 2, 1, 0] (by kernel_rfl) ?_)))))))
               exact bW () _ _ _ ⟨z, z, z⟩ (.cons z (.cons z (.cons z (.cons z (.cons z (.cons z (.cons z (.cons z (.cons z (.cons z (.cons z (.cons z .nil))))))))))))
             ·rintro _ _ _ ⟨rfl, rfl, rfl⟩
              replace h := eP
              refine (show WD _ _ _ _ _ _ _ _ [(0, a), (1, vi j), (2, vi l), (3, Value.func (.func 106) (List.toArray []) (List.toArray [])), (8, vi P), (9, vi t), (37, a), (38, vi t), (39, a), (41, vi (w64 (t - 1))), (46, ag [vs E.Key, vs E.Val]), (50, ag [vs G.Key, vs G.Val])] _ _ from ?_)
              obtain ⟨c1, eQ, h⟩ := bnd h
              obtain ⟨jU, iI, ja, aJ, eR, eS, aK, c2⟩ := OwnSl.at F eQ
              obtain ⟨_, _, rfl, rfl, rfl⟩ := c2
              replace aK : CellsAt _ _ _ [vs c1.Key, vs c1.Val] := aK
              have iJ := CAt.own F aJ aK
              refine WD.y 14 z (by kernel_rfl) (fun _ _ _ => Y.indexAddr ty25 ty65 z aJ z eR eS) z (WD.heavy 15 z (by kernel_rfl) ?_)
              obtain ⟨jb, c3, h⟩ := bnd h
              refine WL.storeOwn (R := rep_api_Pair) (u := E) (by decide) ty65 z z ⟨[vs E.Key], [vs E.Val], z, z, z⟩ F aJ c3 ?_
              intro jc bg aL
              refine nl (At.dq (su_ bg z) ?_)
              obtain ⟨c4, eT, h⟩ := bnd h
              obtain ⟨jV, iK, jd, aM, eU, eV, aN, c5⟩ := OwnSl.at aL eT
              obtain ⟨_, _, rfl, rfl, rfl⟩ := c5
              replace aN : CellsAt _ _ _ [vs c4.Key, vs c4.Val] := aN
              have iL := CAt.own aL aM aN
              refine WD.y 16 z (by kernel_rfl) (fun _ _ _ => Y.indexAddr ty25 ty65 z aM z eU eV) z (WD.phase [1001] [0, 1, 2, 3, 4, 5, 6, 7, 8, 9, 10, 11, 12, 13, 14, 15, 16, 17] (by kernel_rfl) (by kernel_rfl) (WD.heavy 17 z (by kernel_rfl) ?_))
              obtain ⟨eW, c6, h⟩ := bnd h
              refine WL.storeOwn (R := rep_api_Pair) (u := G) (by decide) ty65 z z ⟨[vs G.Key], [vs G.Val], z, z, z⟩ aL aM c6 ?_
              intro je bh eX
              refine nl (At.dq (su_ bh z) (WD.done_ (by kernel_rfl) (At.inBlock (th (rg (wY (ym z) z (wY (Y.sub_i z z) z ?_)))))))
              obtain ⟨hg, eY, h⟩ := lt1 h
              refine WL.yE (ya z) (congrArg vi eY.symm) z (nl ?_)
              exact At.round (eW, hg, bH) g5 (Nat.lt_succ_self _) ⟨next1 h bO, (tr_ (su_ al z) (tr_ (su_ Q z) (tr_ (su_ S z) (tr_ (su_ bc z) (tr_ (su_ bg z) (su_ bh z)))))), eX⟩ (.cons z (.cons z (.cons z (.cons z (.cons z (.cons z .nil))))))
            ·refine WC.condF' z aG (WC.exit (At.thenX (At.loopX ?_)))
             have e0 := (ae.st Q z z z).st S z z z
             obtain ⟨hh, c7, e1⟩ := OwnSl.rlb 1002 rfl e0
             exact At.hitB (σ := (List api_Pair × Own)) (cr, hh) ⟨brk1 h bO, (tr_ (su_ al z) (tr_ (su_ Q z) (tr_ (su_ S z) (su_ c7 z)))), e1⟩ (.cons z (.cons z (.cons z (.cons z (.cons z .nil)))))
          ·rintro ⟨cs, jW⟩ jf ⟨rfl, bi, bX⟩
           replace h := flowK_go en
           try dsimp only at h bi bX
           refine (show At _ _ _ [(0, a), (1, vi j), (2, vi l), (3, Value.func (.func 106) (List.toArray []) (List.toArray [])), (8, vi P)] _ from ?_)
           refine At.inBlockHit ?_
           obtain ⟨hi, c8, e2⟩ := OwnSl.rlb 1003 rfl bX
           exact At.join (σ := (List api_Pair × Own)) (cs, hi) ⟨some1 h, (tr_ (su_ bi z) (su_ c8 z)), e2⟩ (.cons z (.cons z (.cons z (.cons z (.cons z .nil)))))
         ·rintro ⟨ct, jX⟩ jg ⟨rfl, bj, bY⟩
          replace h := em
          try dsimp only at h bj bY
          refine (show At _ _ _ [(0, a), (1, vi j), (2, vi l), (3, Value.func (.func 106) (List.toArray []) (List.toArray [])), (8, vi P)] _ from ?_)
          refine At.inBlock (th (rg (wY (ym z) z (wY (Y.add_i z z) z ?_))))
          obtain ⟨hj, e5, h⟩ := lt1 h
          refine WL.yE (ya z) (congrArg vi e5.symm) z (nl ?_)
          obtain ⟨hm, c9, e6⟩ := OwnSl.rlb 1004 rfl bY
          exact At.round (ct, hj, hm) g2 (Nat.lt_succ_self _) ⟨next1 h bM, (tr_ (su_ aC z) (tr_ (su_ bj z) (su_ c9 z))), e6⟩ (.cons z (.cons z (.cons z (.cons z (.cons z .nil)))))
        ·refine WC.condF' z aD (WC.exit (At.thenX (At.loopX ?_)))
         obtain ⟨hn, da, e7⟩ := OwnSl.rlb 1005 rfl bG
         exact At.hitB (σ := (List api_Pair × Own)) (ba, hn) ⟨brk1 h bM, (tr_ (su_ aC z) (su_ da z)), e7⟩ .nil
       ·rintro ⟨iM, kr⟩ jY ⟨rfl, bZ, db⟩
        replace h := flowK_go g1
        try dsimp only at h bZ db
        refine (show At _ _ _ [] _ from ?_)
        refine At.inBlockHit ?_
        obtain ⟨ho, dc, e8⟩ := OwnSl.rlb 1006 rfl db
        exact At.res (.inr z) z .nil ⟨(iM, ho), ⟨some1 h, (tr_ (su_ bZ z) (su_ dc z)), e8⟩, z⟩
      ·rintro ⟨dd, ks⟩ jZ ⟨rfl, b0, de⟩
       replace h := gZ
       try dsimp only at h b0 de
       refine (show WL _ _ _ _ _ ((18, tp []) :: _) _ from ?_)
       refine nl (th (sq (rg (wY (ym z) z (wY (ya z) z (nl (th (rg (wY (ym z) z ?_)))))))))
       refine wY (ym z) z (wY (Y.add_i z z) z ?_)
       obtain ⟨hp, e9, h⟩ := lt1 h
       refine WL.yE (ya z) (congrArg vi e9.symm) z (nl (At.inBlock ?_))
       obtain ⟨hq, df, fa⟩ := OwnSl.rlb 1007 rfl de
       exact At.round (dd, l, hp, hq) iA (Nat.lt_succ_self _) ⟨next1 h cK, (tr_ (su_ aA z) (tr_ (su_ b0 z) (su_ df z))), fa⟩ (.cons z (.cons z (.cons z (.cons z (.cons z (.cons z .nil))))))
     ·refine WC.condF' z bD (WC.exit (At.thenX (At.loopX ?_)))
      obtain ⟨hr, dg, fc⟩ := OwnSl.rlb 1008 rfl bC
      exact At.hitB (σ := (List api_Pair × Int × Own)) (a9, j, hr) ⟨brk1 h cK, (tr_ (su_ aA z) (su_ dg z)), fc⟩ (.cons z (.cons z (.cons z (.cons z (.cons z .nil)))))
    ·rintro ⟨dh, gM, kt⟩ j0 ⟨rfl, b1, di⟩
     replace h := flowK_go gX
     try dsimp only at h b1 di
     refine (show At _ _ _ [(0, a), (1, vi (e.length : Int)), (2, Value.func (.func 106) (List.toArray []) (List.toArray [])), (6, vi 20), (7, vi gM)] _ from ?_)
     refine At.inBlockHit ?_
     obtain ⟨ht, dj, fd⟩ := OwnSl.rlb 1009 rfl di
     exact At.join (σ := (List api_Pair × Int × Own)) (dh, gM, ht) ⟨some1 h, (tr_ (su_ b1 z) (su_ dj z)), fd⟩ (.cons z (.cons z (.cons z (.cons z (.cons z .nil)))))
   ·rintro ⟨dk, o, dl⟩ bI ⟨rfl, b2, dm⟩
    replace h := gW
    try dsimp only at h b2 dm
    refine (show At _ _ _ [(0, a), (1, vi (e.length : Int)), (2, Value.func (.func 106) (List.toArray []) (List.toArray [])), (6, vi 20), (7, vi o)] _ from ?_)
    refine th (sq (rg (wY (ym z) z (wY (ym z) z (wY (ym z) z (wY (ym z) z ?_))))))
    obtain ⟨hu, h, fe⟩ := bnd h
    refine WL.callJ (vals := [a, vi o, vi (e.length : Int), Value.func (.func 106) (List.toArray []) (List.toArray [])]) (σ := (List api_Pair × Own)) (fun x w' => x.1 = hu ∧ Stp [1009, 1010, 1011, 1012, 1013, 1014] dl bI x.2 w' ∧ OwnSl 1015 rep_api_Pair 65 x.2 w' a x.1) (fun x => tp []) kok125 z z ?_ ?_
    ·refine Rets.enter Try.func125 z z ?_
     refine (show WC _ _ _ _ [(0, a), (1, vi o), (2, vi (e.length : Int)), (3, Value.func (.func 106) (List.toArray []) (List.toArray []))] _ from ?_)
     refine sq (rg (wY (ym z) z (wY (Y.add_i z z) z ?_)))
     obtain ⟨hv, ff, h⟩ := lt1 h
     refine WL.yE (ya z) (congrArg vi ff.symm) z (nl (th (WC.block ?_)))
     obtain ⟨dn, h, fg⟩ := flow1 h
     obtain ⟨dp, h⟩ := loop_some h
     refine WC.joinB 0 (σ := (List api_Pair × Own)) (fun x w' => dn = .go x.1 ∧ Stp [1009, 1010, 1011, 1012, 1013] dl bI x.2 w' ∧ OwnSl 1014 rep_api_Pair 65 x.2 w' a x.1) (fun x => []) ?_ ?_
     ·obtain ⟨hw, dr, fh⟩ := OwnSl.rlb 1013 rfl dm
      refine WC.loop (σ := (List api_Pair × Int × Own)) (fun x k w' => loopN k (label_Sorted_lp4 e o) (x.1, x.2.1) = some dn ∧ Stp [1009, 1010, 1011, 1012, 1013] dl bI x.2.2 w' ∧ OwnSl 1013 rep_api_Pair 65 x.2.2 w' a x.1) (fun x => [(0, a), (1, vi o), (2, vi (e.length : Int)), (3, Value.func (.func 106) (List.toArray []) (List.toArray [])), (8, vi x.2.1)]) (dk, hv, hw) dp (.cons z (.cons z (.cons z (.cons z (.cons z .nil))))) ⟨h, (su_ dr z), fh⟩ ?_
      rintro ⟨ay, r, bJ⟩ dp aO ⟨h, an, aP⟩
      obtain ⟨hx, j1, rfl, h, b3⟩ := rnd1 h
      unfold label_Sorted_lp4 at h
      try dsimp only at h an aP
      refine (show WC _ _ _ _ [(0, a), (1, vi o), (2, vi (e.length : Int)), (3, Value.func (.func 106) (List.toArray []) (List.toArray [])), (8, vi r)] _ from ?_)
      refine sq (sq (rg (wY (ym z) z (wY (ym z) z (wY (Y.lss_i z z) z (nl (th ?_)))))))
      rcases cnd h with ⟨aQ, h⟩ | ⟨aQ, h⟩
      ·refine WC.condT' z aQ (sk (th (sq (WC.block (sq (rg (wY (ym z) z (wY (ya z) z (nl ?_)))))))))
       refine th ?_
       obtain ⟨hy, h, fi⟩ := bnd h
       refine WC.join (σ := (List api_Pair × Own)) (fun x w' => x.1 = hy ∧ Stp [1010, 1011, 1013] bJ aO x.2 w' ∧ OwnSl 1012 rep_api_Pair 65 x.2 w' a x.1) (fun x => [(0, a), (1, vi o), (2, vi (e.length : Int)), (3, Value.func (.func 106) (List.toArray []) (List.toArray [])), (8, vi r)]) ?_ ?_
       ·refine WC.block ?_
        obtain ⟨ds, h, fj⟩ := flow1 h
        obtain ⟨dt, h⟩ := loop_some h
        refine WC.joinB 2 (σ := (List api_Pair × Own)) (fun x w' => ds = .go x.1 ∧ Stp [1010, 1013] bJ aO x.2 w' ∧ OwnSl 1011 rep_api_Pair 65 x.2 w' a x.1) (fun x => [(0, a), (1, vi o), (2, vi (e.length : Int)), (3, Value.func (.func 106) (List.toArray []) (List.toArray [])), (8, vi r)]) ?_ ?_
        ·obtain ⟨hz, du, fk⟩ := OwnSl.rlb 1010 rfl aP
         refine WC.loop (σ := (List api_Pair × Int × Own)) (fun x k w' => loopN k (label_Sorted_lp5 o) (x.1, x.2.1) = some ds ∧ Stp [1010, 1013] bJ aO x.2.2 w' ∧ OwnSl 1010 rep_api_Pair 65 x.2.2 w' a x.1) (fun x => [(0, a), (1, vi o), (2, vi (e.length : Int)), (3, Value.func (.func 106) (List.toArray []) (List.toArray [])), (8, vi r), (9, vi x.2.1)]) (ay, r, hz) dt (.cons z (.cons z (.cons z (.cons z (.cons z (.cons z .nil)))))) ⟨h, (su_ du z), fk⟩ ?_
         rintro ⟨cu, H, ao⟩ dt jh ⟨h, ap, ah⟩
         obtain ⟨hA, j2, rfl, h, b4⟩ := rnd1 h
         unfold label_Sorted_lp5 at h
         try dsimp only at h ap ah
         refine (show WC _ _ _ _ [(0, a), (1, vi o), (2, vi (e.length : Int)), (3, Value.func (.func 106) (List.toArray []) (List.toArray [])), (8, vi r), (9, vi H)] _ from ?_)
         refine sq (sq (WC.drawH [] [0, 1, 2, 3, 4, 5, 6, 7, 8, 9, 10, 11, 12, 13, 14, 15, 16] ao 17 fmix z (by kernel_rfl) ?_))
         intro b5 T
         refine WD.y 0 z (by kernel_rfl) (fun _ _ _ => ym z) z (WD.y 1 z (by kernel_rfl) (fun _ _ _ => ym z) z (WD.y 2 z (by kernel_rfl) (fun _ _ _ => Y.gtr_i z z) z (WD.y 3 z (by kernel_rfl) (fun _ _ _ => ym z) z ?_)))
         obtain ⟨hC, h, fl⟩ := bnd h
         refine WD.join (σ := (Bool × Own)) (f' := 0) [16, 15, 14, 13, 12, 11, 10, 9, 8, 7, 6, 5, 4, 3, 2, 1, 0] (fun x O' w' => x.1 = hC ∧ Stp [] ao b5 x.2 w' ∧ x.2 = O') (fun x => [(0, a), (1, vi o), (2, vi (e.length : Int)), (3, Value.func (.func 106) (List.toArray []) (List.toArray [])), (8, vi r), (9, vi H), (34, vB x.1)]) (fun b6 => ?_) ?_
         ·rcases cnd h with ⟨ab, h⟩ | ⟨ab, h⟩
          ·refine WD.ren 21 z (congrArg vB ab) (WD.gT 4 z (by kernel_rfl) z z (fun _ _ _ => ym z) z (WD.gT 5 z (by kernel_rfl) z z (fun _ _ _ => ym z) z (WD.gT 6 z (by kernel_rfl) z z (fun _ _ _ => ym z) z ?_)))
           obtain ⟨I, fm, h⟩ := bnd h
           have ai := ah.st T z z z
           obtain ⟨j3, iN, ji, b7, fn, fo, aR, dw⟩ := OwnSl.at ai fm
           obtain ⟨_, _, rfl, rfl, rfl⟩ := dw
           replace aR : CellsAt _ _ _ [vs I.Key, vs I.Val] := aR
           have dx := CAt.own ai b7 aR
           refine WD.gT 7 z (by kernel_rfl) z z (fun _ _ _ => Y.indexAddr ty25 ty65 z b7 z fn fo) z (WD.gT 8 z (by kernel_rfl) z z (fun jj j4 dy => have fp := dx.st dy z; yL ty65 z z fp.at_ z) z (WD.gT 9 z (by kernel_rfl) z z (fun _ _ _ => ym z) z (WD.gT 10 z (by kernel_rfl) z z (fun _ _ _ => ym z) z (WD.gT 11 z (by kernel_rfl) z z (fun _ _ _ => Y.sub_i z z) z ?_))))
           obtain ⟨J, fq, h⟩ := bnd h
           obtain ⟨j5, iO, jk, b8, fs, ft, aS, dz⟩ := OwnSl.at ai fq
           obtain ⟨_, _, rfl, rfl, rfl⟩ := dz
           replace aS : CellsAt _ _ _ [vs J.Key, vs J.Val] := aS
           have dA := CAt.own ai b8 aS
           refine WD.gT 12 z (by kernel_rfl) z z (fun _ _ _ => Y.indexAddr ty25 ty65 z b8 z fs ft) z (WD.gT 13 z (by kernel_rfl) z z (fun jl j6 dB => have fu := dA.st dB z; yL ty65 z z fu.at_ z) z (WD.heavy 14 z (by kernel_rfl) (ug z z ?_)))
           obtain ⟨hD, h, fw⟩ := bnd h
           refine WL.callV (fv := []) (cv := []) (vals := [ag [vs I.Key, vs I.Val], ag [vs J.Key, vs J.Val]]) (σ := (Int × Own)) (fun x w' => x.1 = hD ∧ Stp [] ao b5 x.2 w') (fun x => vi x.1) kok106 z z z ?_ ?_
           ·refine Rets.enter Try.func106 z z ?_
            refine (show WC _ _ _ _ [(0, ag [vs I.Key, vs I.Val]), (1, ag [vs J.Key, vs J.Val])] _ from ?_)
            refine sq (rg (WL.box (O := ao) 14 [vs I.Key, vs I.Val] z z z ?_))
            intro j7 hE jm dC fx
            refine WL.box (O := hE) 15 [vs J.Key, vs J.Val] z z z ?_
            intro j8 hF jn bk fy
            refine wY (ya z) z (nl (th (sq (rg (wY (yf fo65_0 z) z ?_)))))
            have fz := fx.st bk z
            refine wY (yl ty9 z z (fz.cell 0 _ z)) z (wY (yf fo65_0 z) z (wY (yl ty9 z z (fy.cell 0 _ z)) z ?_))
            obtain ⟨hG, fA, h⟩ := bnd h
            refine WL.call (vals := [vs I.Key, vs J.Key]) kok107 z z (c_cmp_Compare_string fA) ?_
            rintro jo jp ⟨rfl, fB⟩
            obtain ⟨hH, io, ip, dD⟩ := adoptE hF (fun k => 1) fB
            refine wY (ya z) z (nl (th (rt ?_)))
            exact At.res (.inl z) z (.tmp z .nil) ⟨(hG, hH), ⟨some1 h, (tr_ (su_ dC z) (tr_ (su_ bk z) (su_ dD z)))⟩, z⟩
           ·rintro ⟨dE, hI⟩ jq ⟨rfl, aq⟩
            replace h := fw
            try dsimp only at h aq
            refine (show WL _ _ _ _ _ ((32, vi dE) :: _) _ from ?_)
            refine nl (At.dq (su_ aq z) (WD.gT 15 z (by kernel_rfl) z z (fun _ _ _ => Y.lss_i z z) z (WD.y 16 z (by kernel_rfl) (fun _ _ _ => Y.pick (b := true) z z) z (WD.ren 21 z (congrArg vB ab.symm) ?_))))
            exact b6 (decide (dE < 0), hI) _ _ _ ⟨some1 h, (su_ aq z), z⟩ (.cons z (.cons z (.cons z (.cons z (.cons z (.cons z (.cons z .nil)))))))
          ·refine WD.ren 21 z (congrArg vB ab) (WD.gS 4 z (by kernel_rfl) z z z z (WD.gS 5 z (by kernel_rfl) z z z z (WD.gS 6 z (by kernel_rfl) z z z z (WD.gS 7 z (by kernel_rfl) z z z z (WD.gS 8 z (by kernel_rfl) z z z z (WD.gS 9 z (by kernel_rfl) z z z z (WD.gS 10 z (by kernel_rfl) z z z z (WD.gS 11 z (by kernel_rfl) z z z z (WD.gS 12 z (by kernel_rfl) z z z z ?_)))))))))
           refine WD.gS 13 z (by kernel_rfl) z z z z (WD.heavy 14 z (by kernel_rfl) (WL.gS z z z z (nl (At.dq (sr_ _ _ _) (WD.gS 15 z (by kernel_rfl) z z z z (WD.y 16 z (by kernel_rfl) (fun _ _ _ => Y.pick (b := false) z z) z (WD.ren 21 z (congrArg vB ab.symm) ?_)))))))
           exact b6 (false, ao) _ _ _ ⟨some1 h, (sr_ _ _ _), z⟩ (.cons z (.cons z (.cons z (.cons z (.cons z (.cons z (.cons z .nil)))))))
         ·rintro ⟨hJ, bK⟩ _ jr ⟨rfl, U, rfl⟩
          replace h := fl
          try dsimp only at h U
          refine (show WD _ _ _ _ _ _ _ _ [(0, a), (1, vi o), (2, vi (e.length : Int)), (3, Value.func (.func 106) (List.toArray []) (List.toArray [])), (8, vi r), (9, vi H), (34, vB hJ)] _ _ from ?_)
          refine WD.done_ (by kernel_rfl) (th ?_)
          rcases cnd h with ⟨aT, h⟩ | ⟨aT, h⟩
          ·refine WC.condT' z aT (sk (th (sq (WC.block (WC.drawH [1010] [0, 1, 2, 3, 4, 5, 6, 7, 8, 9, 10, 11, 12, 13, 14, 15, 16] bK 18 fmix z (by kernel_rfl) ?_)))))
           intro fC bl
           refine WD.y 0 z (by kernel_rfl) (fun _ _ _ => ym z) z (WD.y 1 z (by kernel_rfl) (fun _ _ _ => ym z) z (WD.y 2 z (by kernel_rfl) (fun _ _ _ => ym z) z (WD.y 3 z (by kernel_rfl) (fun _ _ _ => ym z) z (WD.y 4 z (by kernel_rfl) (fun _ _ _ => Y.sub_i z z) z (WD.y 5 z (by kernel_rfl) (fun _ _ _ => ym z) z (WD.y 6 z (by kernel_rfl) (fun _ _ _ => ym z) z (WD.y 7 z (by kernel_rfl) (fun _ _ _ => Y.sub_i z z) z ?_)))))))
           obtain ⟨K, fD, h⟩ := bnd h
           have L := ((ah.st T z z z).st U z z z).st bl z z z
           obtain ⟨j9, iP, js, b9, fH, fI, aU, dF⟩ := OwnSl.at L fD
           obtain ⟨_, _, rfl, rfl, rfl⟩ := dF
           replace aU : CellsAt _ _ _ [vs K.Key, vs K.Val] := aU
           have bm := CAt.own L b9 aU
           refine WD.y 8 z (by kernel_rfl) (fun _ _ _ => Y.indexAddr ty25 ty65 z b9 z fH fI) z (WD.y 10 z (by kernel_rfl) (fun _ _ _ => ym z) z (WD.y 11 z (by kernel_rfl) (fun _ _ _ => ym z) z ?_))
           obtain ⟨M, fJ, h⟩ := bnd h
           obtain ⟨ka, iQ, jt, ca, fK, fL, aW, dG⟩ := OwnSl.at L fJ
           obtain ⟨_, _, rfl, rfl, rfl⟩ := dG
           replace aW : CellsAt _ _ _ [vs M.Key, vs M.Val] := aW
           have bn := CAt.own L ca aW
           refine WD.y 12 z (by kernel_rfl) (fun _ _ _ => Y.indexAddr ty25 ty65 z ca z fK fL) z ?_
           obtain ⟨hK, h, fN⟩ := bnd h
           refine WD.join (σ := Unit) (f' := 4) [13, 12, 11, 10, 9, 8, 7, 6, 5, 4, 3, 2, 1, 0] (fun x O' w' => () = hK ∧ fC = w' ∧ bK = O') (fun x => [(0, a), (1, vi o), (2, vi (e.length : Int)), (3, Value.func (.func 106) (List.toArray []) (List.toArray [])), (8, vi r), (9, vi H), (37, a), (38, vi H), (39, a), (41, vi (w64 (H - 1))), (46, ag [vs K.Key, vs K.Val]), (50, ag [vs M.Key, vs M.Val])]) (fun cb => ?_) ?_
           ·refine WD.heavy2 9 13 z z (by kernel_rfl) ?_ ?_
            ·refine wY (yL ty65 z z bm.at_ z) z (nl (At.dq (sr_ _ _ _) (WD.heavy 13 z (by kernel_rfl) (wY (yL ty65 z z bn.at_ z) z (nl (At.dq (sr_ _ _ _) (WD.perm _ [13, 12, 11, 10, 9, 8, 7, 6, 5, 4, 3, 2, 1, 0] (by kernel_rfl) ?_)))))))
             exact cb () _ _ _ ⟨z, z, z⟩ (.cons z (.cons z (.cons z (.cons z (.cons z (.cons z (.cons z (.cons z (.cons z (.cons z (.cons z (.cons z .nil))))))))))))
            ·try simp only [Option.bind_assoc] at h
             try simp only [Option.bind_some] at h
             refine wY (yL ty65 z z bn.at_ z) z (nl (At.dq (sr_ _ _ _) (WD.heavy 9 z (by kernel_rfl) (wY (yL ty65 z z bm.at_ z) z (nl (At.dq (sr_ _ _ _) (WD.perm _ [13, 12, 11, 10, 9, 8, 7, 6, 5, 4, 3, 2, 1, 0] (by kernel_rfl) ?_)))))))
             exact cb () _ _ _ ⟨z, z, z⟩ (.cons z (.cons z (.cons z (.cons z (.cons z (.cons z (.cons z (.cons z (.cons z (.cons z (.cons z (.cons z .nil))))))))))))
           ·rintro _ _ _ ⟨rfl, rfl, rfl⟩
            replace h := fN
            refine (show WD _ _ _ _ _ _ _ _ [(0, a), (1, vi o), (2, vi (e.length : Int)), (3, Value.func (.func 106) (List.toArray []) (List.toArray [])), (8, vi r), (9, vi H), (37, a), (38, vi H), (39, a), (41, vi (w64 (H - 1))), (46, ag [vs K.Key, vs K.Val]), (50, ag [vs M.Key, vs M.Val])] _ _ from ?_)
            obtain ⟨dH, fO, h⟩ := bnd h
            obtain ⟨kb, iR, ju, aX, fP, fQ, aY, dI⟩ := OwnSl.at L fO
            obtain ⟨_, _, rfl, rfl, rfl⟩ := dI
            replace aY : CellsAt _ _ _ [vs dH.Key, vs dH.Val] := aY
            have iS := CAt.own L aX aY
            refine WD.y 14 z (by kernel_rfl) (fun _ _ _ => Y.indexAddr ty25 ty65 z aX z fP fQ) z (WD.heavy 15 z (by kernel_rfl) ?_)
            obtain ⟨jv, dJ, h⟩ := bnd h
            refine WL.storeOwn (R := rep_api_Pair) (u := K) (by decide) ty65 z z ⟨[vs K.Key], [vs K.Val], z, z, z⟩ L aX dJ ?_
            intro jw bo aZ
            refine nl (At.dq (su_ bo z) ?_)
            obtain ⟨dK, fR, h⟩ := bnd h
            obtain ⟨kc, iT, jx, a1, fT, fU, a2, dL⟩ := OwnSl.at aZ fR
            obtain ⟨_, _, rfl, rfl, rfl⟩ := dL
            replace a2 : CellsAt _ _ _ [vs dK.Key, vs dK.Val] := a2
            have iU := CAt.own aZ a1 a2
            refine WD.y 16 z (by kernel_rfl) (fun _ _ _ => Y.indexAddr ty25 ty65 z a1 z fT fU) z (WD.phase [1010] [0, 1, 2, 3, 4, 5, 6, 7, 8, 9, 10, 11, 12, 13, 14, 15, 16, 17] (by kernel_rfl) (by kernel_rfl) (WD.heavy 17 z (by kernel_rfl) ?_))
            obtain ⟨fV, dM, h⟩ := bnd h
            refine WL.storeOwn (R := rep_api_Pair) (u := M) (by decide) ty65 z z ⟨[vs M.Key], [vs M.Val], z, z, z⟩ aZ a1 dM ?_
            intro jy bp fY
            refine nl (At.dq (su_ bp z) (WD.done_ (by kernel_rfl) (At.inBlock (th (rg (wY (ym z) z (wY (Y.sub_i z z) z ?_)))))))
            obtain ⟨hL, f0, h⟩ := lt1 h
            refine WL.yE (ya z) (congrArg vi f0.symm) z (nl ?_)
            exact At.round (fV, hL, bK) hA (Nat.lt_succ_self _) ⟨next1 h b4, (tr_ (su_ ap z) (tr_ (su_ T z) (tr_ (su_ U z) (tr_ (su_ bl z) (tr_ (su_ bo z) (su_ bp z)))))), fY⟩ (.cons z (.cons z (.cons z (.cons z (.cons z (.cons z .nil))))))
          ·refine WC.condF' z aT (WC.exit (At.thenX (At.loopX ?_)))
           have f2 := (ah.st T z z z).st U z z z
           obtain ⟨hM, dN, f3⟩ := OwnSl.rlb 1011 rfl f2
           exact At.hitB (σ := (List api_Pair × Own)) (cu, hM) ⟨brk1 h b4, (tr_ (su_ ap z) (tr_ (su_ T z) (tr_ (su_ U z) (su_ dN z)))), f3⟩ (.cons z (.cons z (.cons z (.cons z (.cons z .nil)))))
        ·rintro ⟨cw, ke⟩ jz ⟨rfl, bq, cc⟩
         replace h := flowK_go fj
         try dsimp only at h bq cc
         refine (show At _ _ _ [(0, a), (1, vi o), (2, vi (e.length : Int)), (3, Value.func (.func 106) (List.toArray []) (List.toArray [])), (8, vi r)] _ from ?_)
         refine At.inBlockHit ?_
         obtain ⟨hN, dO, f4⟩ := OwnSl.rlb 1012 rfl cc
         exact At.join (σ := (List api_Pair × Own)) (cw, hN) ⟨some1 h, (tr_ (su_ bq z) (su_ dO z)), f4⟩ (.cons z (.cons z (.cons z (.cons z (.cons z .nil)))))
       ·rintro ⟨cx, kg⟩ jA ⟨rfl, br, cd⟩
        replace h := fi
        try dsimp only at h br cd
        refine (show At _ _ _ [(0, a), (1, vi o), (2, vi (e.length : Int)), (3, Value.func (.func 106) (List.toArray []) (List.toArray [])), (8, vi r)] _ from ?_)
        refine At.inBlock (th (rg (wY (ym z) z (wY (Y.add_i z z) z ?_))))
        obtain ⟨hO, f5, h⟩ := lt1 h
        refine WL.yE (ya z) (congrArg vi f5.symm) z (nl ?_)
        obtain ⟨hP, dP, f6⟩ := OwnSl.rlb 1013 rfl cd
        exact At.round (cx, hO, hP) hx (Nat.lt_succ_self _) ⟨next1 h b3, (tr_ (su_ an z) (tr_ (su_ br z) (su_ dP z))), f6⟩ (.cons z (.cons z (.cons z (.cons z (.cons z .nil)))))
      ·refine WC.condF' z aQ (WC.exit (At.thenX (At.loopX ?_)))
       obtain ⟨hQ, dQ, f7⟩ := OwnSl.rlb 1014 rfl aP
       exact At.hitB (σ := (List api_Pair × Own)) (ay, hQ) ⟨brk1 h b3, (tr_ (su_ an z) (su_ dQ z)), f7⟩ .nil
     ·rintro ⟨hR, kh⟩ jB ⟨rfl, bs, ce⟩
      replace h := flowK_go fg
      try dsimp only at h bs ce
      refine (show At _ _ _ [] _ from ?_)
      refine At.inBlockHit ?_
      obtain ⟨hS, dR, f8⟩ := OwnSl.rlb 1015 rfl ce
      exact At.res (.inr z) z .nil ⟨(hR, hS), ⟨some1 h, (tr_ (su_ bs z) (su_ dR z)), f8⟩, z⟩
    ·rintro ⟨cy, dS⟩ cf ⟨rfl, bt, cg⟩
     replace h := fe
     try dsimp only at h bt cg
     refine (show WL _ _ _ _ _ ((27, tp []) :: _) _ from ?_)
     refine nl (th (WC.block ?_))
     obtain ⟨dT, h, f9⟩ := flow1 h
     obtain ⟨dU, h⟩ := loop_some h
     refine WC.joinB 2 (σ := (List api_Pair × Own)) (fun x w' => dT = .go x.1 ∧ Stp [1015, 1016, 1017, 1018, 1019, 1020, 1021] dS cf x.2 w' ∧ OwnSl 1022 rep_api_Pair 65 x.2 w' a x.1) (fun x => []) ?_ ?_
     ·obtain ⟨hT, dV, ga⟩ := OwnSl.rlb 1021 rfl cg
      refine WC.loop (σ := (List api_Pair × Int × Own)) (fun x k w' => loopN k (label_Sorted_lp6 e) (x.1, x.2.1) = some dT ∧ Stp [1015, 1016, 1017, 1018, 1019, 1020, 1021] dS cf x.2.2 w' ∧ OwnSl 1021 rep_api_Pair 65 x.2.2 w' a x.1) (fun x => [(0, a), (1, vi (e.length : Int)), (2, Value.func (.func 106) (List.toArray []) (List.toArray [])), (6, vi x.2.1)]) (cy, 20, hT) dU (.cons z (.cons z (.cons z (.cons z .nil)))) ⟨h, (su_ dV z), ga⟩ ?_
      rintro ⟨az, d, a3⟩ dU aj ⟨h, ar, a4⟩
      obtain ⟨hU, ki, rfl, h, ch⟩ := rnd1 h
      unfold label_Sorted_lp6 at h
      try dsimp only at h ar a4
      refine (show WC _ _ _ _ [(0, a), (1, vi (e.length : Int)), (2, Value.func (.func 106) (List.toArray []) (List.toArray [])), (6, vi d)] _ from ?_)
      refine sq (sq (rg (wY (ym z) z (wY (ym z) z (wY (Y.lss_i z z) z (nl (th ?_)))))))
      rcases cnd h with ⟨a5, h⟩ | ⟨a5, h⟩
      ·refine WC.condT' z a5 (sk (th ?_))
       obtain ⟨hV, h, gb⟩ := bnd h
       refine WC.join (σ := (List api_Pair × Int × Own)) (fun x w' => (x.1, x.2.1) = hV ∧ Stp [1016, 1017, 1018, 1019, 1021] a3 aj x.2.2 w' ∧ OwnSl 1020 rep_api_Pair 65 x.2.2 w' a x.1) (fun x => [(0, a), (1, vi (e.length : Int)), (2, Value.func (.func 106) (List.toArray []) (List.toArray [])), (6, vi x.2.1)]) ?_ ?_
       ·refine WC.block (sq (rg (wY (ym z) z (wY (Y.mul_i z z) z (wY (ya z) z ?_)))))
        obtain ⟨hW, gc, h⟩ := lt1 h
        refine WL.yE (ya z) (congrArg vi gc.symm) z (nl (th (sq ?_)))
        obtain ⟨hX, h, gd⟩ := bnd h
        refine WC.join (σ := (List api_Pair × Int × Own)) (fun x w' => (x.1, x.2.1) = hX ∧ Stp [1016, 1017, 1021] a3 aj x.2.2 w' ∧ OwnSl 1018 rep_api_Pair 65 x.2.2 w' a x.1) (fun x => [(0, a), (1, vi (e.length : Int)), (2, Value.func (.func 106) (List.toArray []) (List.toArray [])), (6, vi d), (7, vi x.2.1)]) ?_ ?_
        ·refine WC.block ?_
         obtain ⟨dW, h, ge⟩ := flow1 h
         obtain ⟨dX, h⟩ := loop_some h
         refine WC.joinB 4 (σ := (List api_Pair × Int × Own)) (fun x w' => dW = .go (x.1, x.2.1) ∧ Stp [1016, 1021] a3 aj x.2.2 w' ∧ OwnSl 1017 rep_api_Pair 65 x.2.2 w' a x.1) (fun x => [(0, a), (1, vi (e.length : Int)), (2, Value.func (.func 106) (List.toArray []) (List.toArray [])), (6, vi d), (7, vi x.2.1)]) ?_ ?_
         ·obtain ⟨hY, dY, gf⟩ := OwnSl.rlb 1016 rfl a4
          refine WC.loop (σ := (List api_Pair × Int × Int × Own)) (fun x k w' => loopN k (label_Sorted_lp7 e d) (x.1, x.2.1, x.2.2.1) = some dW ∧ Stp [1016, 1021] a3 aj x.2.2.2 w' ∧ OwnSl 1016 rep_api_Pair 65 x.2.2.2 w' a x.1) (fun x => [(0, a), (1, vi (e.length : Int)), (2, Value.func (.func 106) (List.toArray []) (List.toArray [])), (6, vi d), (7, vi x.2.1), (8, vi x.2.2.1)]) (az, 0, hW, hY) dX (.cons z (.cons z (.cons z (.cons z (.cons z (.cons z .nil)))))) ⟨h, (su_ dY z), gf⟩ ?_
          rintro ⟨cz, a6, bL, hZ⟩ dX jC ⟨h, au, X⟩
          obtain ⟨h0, kj, rfl, h, ci⟩ := rnd1 h
          unfold label_Sorted_lp7 at h
          try dsimp only at h au X
          refine (show WC _ _ _ _ [(0, a), (1, vi (e.length : Int)), (2, Value.func (.func 106) (List.toArray []) (List.toArray [])), (6, vi d), (7, vi a6), (8, vi bL)] _ from ?_)
          refine sq (sq (rg (wY (ym z) z (wY (ym z) z (wY (Y.leq_i z z) z (nl (th ?_)))))))
          rcases cnd h with ⟨a7, h⟩ | ⟨a7, h⟩
          ·refine WC.condT' z a7 (sk (th (WC.block (sq (rg (wY (ym z) z (wY (ym z) z (wY (ym z) z (wY (ym z) z ?_)))))))))
           refine wY (Y.add_i z z) z (wY (ym z) z (wY (ym z) z ?_))
           obtain ⟨dZ, gg, h⟩ := bnd h
           refine WL.call (vals := [a, vi a6, vi (w64 (a6 + d)), vi bL, Value.func (.func 106) (List.toArray []) (List.toArray [])]) kok126 z z (c_slices_symMergeCmpFunc_api_Pair X.row gg) ?_
           rintro jD gh ⟨rfl, gi, h1⟩
           obtain ⟨d0, cA, iq, d1⟩ := adopt hZ (fun k => 1) [1016] gi (memV X.labs rfl)
           have gj : OwnSl 1016 rep_api_Pair 65 d0 gh a dZ := Row.start flat_api_Pair h1 (fun k hk => (cA k (X.labs k hk).2).trans (X.labs k hk).1)
           refine nl (th (sq (rg (wY (ym z) z (wY (ya z) z (nl (th (rg (wY (ym z) z ?_)))))))))
           refine wY (ym z) z (wY (Y.mul_i z z) z (wY (Y.add_i z z) z ?_))
           obtain ⟨h2, gk, h⟩ := lt1 h
           refine WL.yE (ya z) (congrArg vi gk.symm) z (nl (At.inBlock ?_))
           exact At.round (dZ, bL, h2, d0) h0 (Nat.lt_succ_self _) ⟨next1 h ci, (tr_ (su_ au z) (su_ d1 z)), gj⟩ (.cons z (.cons z (.cons z (.cons z (.cons z (.cons z .nil))))))
          ·refine WC.condF' z a7 (WC.exit (At.thenX (At.loopX ?_)))
           obtain ⟨h3, d2, gl⟩ := OwnSl.rlb 1017 rfl X
           exact At.hitB (σ := (List api_Pair × Int × Own)) (cz, a6, h3) ⟨brk1 h ci, (tr_ (su_ au z) (su_ d2 z)), gl⟩ (.cons z (.cons z (.cons z (.cons z (.cons z .nil)))))
         ·rintro ⟨cC, d3, kk⟩ jE ⟨rfl, bu, cj⟩
          replace h := flowK_go ge
          try dsimp only at h bu cj
          refine (show At _ _ _ [(0, a), (1, vi (e.length : Int)), (2, Value.func (.func 106) (List.toArray []) (List.toArray [])), (6, vi d), (7, vi d3)] _ from ?_)
          refine At.inBlockHit ?_
          obtain ⟨h4, d4, gm⟩ := OwnSl.rlb 1018 rfl cj
          exact At.join (σ := (List api_Pair × Int × Own)) (cC, d3, h4) ⟨some1 h, (tr_ (su_ bu z) (su_ d4 z)), gm⟩ (.cons z (.cons z (.cons z (.cons z (.cons z .nil)))))
        ·rintro ⟨cD, d5, d6⟩ gn ⟨rfl, bw, Z⟩
         replace h := gd
         try dsimp only at h bw Z
         refine (show At _ _ _ [(0, a), (1, vi (e.length : Int)), (2, Value.func (.func 106) (List.toArray []) (List.toArray [])), (6, vi d), (7, vi d5)] _ from ?_)
         refine th (sq ?_)
         obtain ⟨h5, h, gp⟩ := bnd h
         refine WC.join (σ := (List api_Pair × Own)) (fun x w' => x.1 = h5 ∧ Stp [1018] d6 gn x.2 w' ∧ OwnSl 1019 rep_api_Pair 65 x.2 w' a x.1) (fun x => [(0, a), (1, vi (e.length : Int)), (2, Value.func (.func 106) (List.toArray []) (List.toArray [])), (6, vi d)]) ?_ ?_
         ·refine sq (rg (wY (ym z) z (wY (ym z) z (wY (Y.add_i z z) z ?_))))
          obtain ⟨h6, gq, h⟩ := lt1 h
          refine WL.yE (ya z) (congrArg vi gq.symm) z (nl (th (sq (rg (wY (ym z) z (wY (ym z) z (wY (Y.lss_i z z) z (nl (th ?_)))))))))
          rcases cnd h with ⟨a8, h⟩ | ⟨a8, h⟩
          ·refine WC.condT' z a8 (rg (wY (ym z) z (wY (ym z) z (wY (ym z) z (wY (ym z) z (wY (ym z) z ?_))))))
           obtain ⟨d7, gr, h⟩ := bnd h
           refine WL.call (vals := [a, vi d5, vi h6, vi (e.length : Int), Value.func (.func 106) (List.toArray []) (List.toArray [])]) kok126 z z (c_slices_symMergeCmpFunc_api_Pair Z.row gr) ?_
           rintro jF gs ⟨rfl, gt, h7⟩
           obtain ⟨h8, cE, ir, d8⟩ := adopt d6 (fun k => 1) [1018] gt (memV Z.labs rfl)
           have gu : OwnSl 1018 rep_api_Pair 65 h8 gs a d7 := Row.start flat_api_Pair h7 (fun k hk => (cE k (Z.labs k hk).2).trans (Z.labs k hk).1)
           refine nl ?_
           obtain ⟨h9, d9, gw⟩ := OwnSl.rlb 1019 rfl gu
           exact At.join (σ := (List api_Pair × Own)) (d7, h9) ⟨some1 h, (tr_ (su_ d8 z) (su_ d9 z)), gw⟩ (.cons z (.cons z (.cons z (.cons z .nil))))
          ·refine WC.condF' z a8 (sk ?_)
           obtain ⟨ia, ea, gz⟩ := OwnSl.rlb 1019 rfl Z
           exact At.join (σ := (List api_Pair × Own)) (cD, ia) ⟨some1 h, (su_ ea z), gz⟩ (.cons z (.cons z (.cons z (.cons z .nil))))
         ·rintro ⟨cF, km⟩ jG ⟨rfl, bx, ck⟩
          replace h := gp
          try dsimp only at h bx ck
          refine (show At _ _ _ [(0, a), (1, vi (e.length : Int)), (2, Value.func (.func 106) (List.toArray []) (List.toArray [])), (6, vi d)] _ from ?_)
          refine th (rg (wY (ym z) z (wY (Y.mul_i z z) z ?_)))
          obtain ⟨av, ad, h⟩ := lt1 h
          refine WL.yE (ya z) (congrArg vi ad.symm) z (nl (At.inBlock ?_))
          obtain ⟨ib, eb, gB⟩ := OwnSl.rlb 1020 rfl ck
          exact At.join (σ := (List api_Pair × Int × Own)) (cF, av, ib) ⟨some1 h, (tr_ (su_ bw z) (tr_ (su_ bx z) (su_ eb z))), gB⟩ (.cons z (.cons z (.cons z (.cons z .nil))))
       ·rintro ⟨cG, W, kn⟩ jH ⟨rfl, bz, cl⟩
        replace h := gb
        try dsimp only at h bz cl
        refine (show At _ _ _ [(0, a), (1, vi (e.length : Int)), (2, Value.func (.func 106) (List.toArray []) (List.toArray [])), (6, vi W)] _ from ?_)
        obtain ⟨ic, ec, gC⟩ := OwnSl.rlb 1021 rfl cl
        exact At.round (cG, W, ic) hU (Nat.lt_succ_self _) ⟨next1 h ch, (tr_ (su_ ar z) (tr_ (su_ bz z) (su_ ec z))), gC⟩ (.cons z (.cons z (.cons z (.cons z .nil))))
      ·refine WC.condF' z a5 (WC.exit (At.thenX (At.loopX ?_)))
       obtain ⟨ie, ed, gE⟩ := OwnSl.rlb 1022 rfl a4
       exact At.hitB (σ := (List api_Pair × Own)) (az, ie) ⟨brk1 h ch, (tr_ (su_ ar z) (su_ ed z)), gE⟩ .nil
     ·rintro ⟨ig, ko⟩ jI ⟨rfl, bA, cm⟩
      replace h := flowK_go f9
      try dsimp only at h bA cm
      refine (show At _ _ _ [] _ from ?_)
      refine At.inBlockHit ?_
      obtain ⟨ii, ee, gG⟩ := OwnSl.rlb 1023 rfl cm
      exact At.res (.inr z) z .nil ⟨(ig, ii), ⟨some1 h, (tr_ (su_ b2 z) (tr_ (su_ bt z) (tr_ (su_ bA z) (su_ ee z)))), gG⟩, z⟩
  ·rintro ⟨iV, ku⟩ kp ⟨rfl, cn, ef⟩
   replace h := gV
   try dsimp only at h cn ef
   refine (show WL _ _ _ _ _ ((8, tp []) :: _) _ from ?_)
   refine nl ?_
   obtain ⟨ij, eg, gH⟩ := OwnSl.rlb 1025 rfl ef
   exact At.res (.inr z) z .nil ⟨(iV, ij), ⟨some1 h, (tr_ (su_ cn z) (su_ eg z)), gH⟩, z⟩
 ·rintro ⟨jJ, iW⟩ ik ⟨rfl, co, eh⟩
  replace h := gU
  try dsimp only at h co eh
  refine (show WL _ _ _ _ _ ((7, tp []) :: _) _ from ?_)
  refine nl (th (sq (rg (wY (ym z) z (wY (ya z) z (nl (th (rt ?_))))))))
  obtain rfl := some1 h
  have cq : Stp [11, 1001, 1002, 1003, 1004, 1005, 1006, 1007, 1008, 1009, 1010, 1011, 1012, 1013, 1014, 1015, 1016, 1017, 1018, 1019, 1020, 1021, 1022, 1023] (Lg.O0 A) w iW ik := (tr_ (su_ ei z) (su_ co z))
  exact At.res (.inl z) z (.tmp z .nil) ⟨a, z, (se_ cq z z), (OwnSl.outF eh cq low0 z)⟩
theorem c_pack_Zig {a0 : Int} {w : World} {r0 : UInt64} (h : pack_Zig a0 = some r0) : Rets Try.prog 88 [vi a0] w (fun v w' => v = vu r0 ∧ Ext w w') := by
 unfold pack_Zig at h
 refine Rets.enter Try.func88 z z ?_
 refine (show WC _ _ _ _ [(0, vi a0)] _ from ?_)
 refine sq (rg (wY (ya (v := vu 0) z) z (nl (th (sq (rg (wY (ym z) z (wY (Y.conv_iu ty3.u ty26.u z) z (wY (Y.shl_uu (m := 1) z z) z ?_)))))))))
 refine wY (ym z) z (wY (Y.shr_iu (m := 63) z z) z (wY (Y.conv_iu ty3.u ty26.u z) z (wY (Y.xor_u z z) z ?_)))
 obtain ⟨e, a, h⟩ := lt1 h
 refine WL.yE (ya z) (congrArg vu a.symm) z (nl (th (rt ?_)))
 obtain rfl := some1 h
 have d : Stp [] (Lg.O0 (fun _ => False)) w (Lg.O0 (fun _ => False)) w := (sr_ _ _ _)
 exact At.res (.inl z) z (.tmp z .nil) ⟨z, (se_ d z z)⟩
theorem c_wire_Packed {A : Nat → Prop} {a0 : List UInt64} {v0 : Value} {w : World} (hs0 : Sl Rep.u w A v0 a0) {r0 : List UInt8} (h : wire_Packed a0 = some r0) : Rets Try.prog 108 [v0] w (fun v w' => ∃ (u0 : Value), v = u0 ∧ Ext w w' ∧ RowF Rep.b 5 w w' u0 r0) := by
 unfold wire_Packed at h
 refine Rets.enter Try.func108 z z ?_
 have r : Sl Rep.u w (imm (Lg.O0 A)) v0 a0 := (Sl.start hs0)
 refine (show WC _ _ _ _ [(0, v0)] _ from ?_)
 refine sq (rg (wY (ya z) z (nl (th (sq (rg (wY (ya z) z (nl (th ?_)))))))))
 refine sq (sq (rg (wY (ym z) z (wY (Y.len ty27 z r) z (wY (ym z) z (nl (th (WC.block ?_))))))))
 obtain ⟨M, h, W⟩ := flow1 h
 obtain ⟨P, h⟩ := loop_some h
 refine WC.joinB 0 (σ := (List UInt8 × Own × Value)) (fun x w' => M = .go x.1 ∧ Stp [1001] (Lg.O0 A) w x.2.1 w' ∧ OwnSl 1002 Rep.b 5 x.2.1 w' x.2.2 x.1) (fun x => [(3, x.2.2)]) ?_ ?_
 ·refine WC.loop (σ := (List UInt8 × Int × Own × Value)) (fun x k w' => loopN k (wire_Packed_lp1 a0) (x.1, x.2.1) = some M ∧ Stp [1001] (Lg.O0 A) w x.2.2.1 w' ∧ OwnSl 1001 Rep.b 5 x.2.2.1 w' x.2.2.2 x.1) (fun x => [(3, x.2.2.2), (6, v0), (7, vi (a0.length : Int)), (8, vi x.2.1)]) ([], 0, (Lg.O0 A), sn) P (.cons z (.cons z (.cons z (.cons z .nil)))) ⟨h, (sr_ _ _ _), (OwnSl.nil 1001 Rep.b 5)⟩ ?_
  rintro ⟨G, Q, ao, S⟩ P aF ⟨h, a, d⟩
  obtain ⟨ap, aI, rfl, h, t⟩ := rnd1 h
  unfold wire_Packed_lp1 at h
  try dsimp only at h a d
  refine (show WC _ _ _ _ [(3, S), (6, v0), (7, vi (a0.length : Int)), (8, vi Q)] _ from ?_)
  refine sq (rg (wY (Y.lss_i z z) z (nl (th (sq ?_)))))
  rcases cnd h with ⟨e, h⟩ | ⟨e, h⟩
  ·refine WC.condT' z e (sk (th (sq (WC.block (sq (rg ?_))))))
   obtain ⟨T, X, h⟩ := bnd h
   have Z := r.i a z z
   obtain ⟨aJ, aC, aD, aG, aa, ab, ac, j, H, ad⟩ := Sl.at2 Z X
   obtain rfl := H
   replace j : CellsAt _ _ _ [vu T] := j
   have I := CAt.imm j ad
   refine wY (Y.indexAddr ty27 ty26 z aa z ab ac) z (wY (yl ty26 z z I.at_) z (wY (ya z) z (nl (th (rg (wY (ym z) z (wY (ym z) z ?_)))))))
   obtain ⟨aq, ae, h⟩ := bnd h
   refine WL.call (vals := [vu T]) kok65 z z (c_wire_Var ae) ?_
   rintro C af ⟨_, rfl, ah, ar⟩
   obtain ⟨au, av, D, l⟩ := adoptE ao (fun k => if ob C = some k then 11 else 1) ah
   have ai : OwnSl 11 Rep.b 5 au af C aq := RowF.adopt 11 Flat.b ar D (fun k hk => if_pos hk)
   obtain ⟨aj, J, h⟩ := bnd h
   have ak := d.st l z z z
   refine WL.append (by decide) ty45 ty5 z (by decide) z z ak ai.src J z ?_
   intro ax ay aH K al
   refine wY (ya z) z (nl (At.inBlock (th (rg (wY (Y.add_i z z) z (wY (ym z) z (nl ?_)))))))
   exact At.round (aj, w64 (Q + 1), ay, ax) ap (Nat.lt_succ_self _) ⟨next1 h t, (tr_ (su_ a z) (tr_ (su_ l z) (su_ K z))), al⟩ (.cons z (.cons z (.cons z (.cons z .nil))))
  ·refine WC.condF' z e (WC.exit (At.thenX (At.loopX ?_)))
   obtain ⟨az, L, am⟩ := OwnSl.rlb 1002 rfl d
   exact At.hitB (σ := (List UInt8 × Own × Value)) (G, az, S) ⟨brk1 h t, (tr_ (su_ a z) (su_ L z)), am⟩ (.cons z .nil)
 ·rintro ⟨aE, aA, U⟩ an ⟨rfl, o, E⟩
  replace h := flowK_go W
  try dsimp only at h o E
  refine (show At _ _ _ [(3, U)] _ from ?_)
  refine At.inBlockHit (th (sq (rg (wY (ym z) z (wY (ya z) z (nl (th (rt ?_))))))))
  obtain rfl := some1 h
  have F : Stp [1001] (Lg.O0 A) w aA an := (su_ o z)
  exact At.res (.inl z) z (.tmp z .nil) ⟨U, z, (se_ F z z), (OwnSl.outF E F low0 z)⟩
theorem c_otlp_side {A : Nat → Prop} {a0 : Int} {v1_1 : Value} {a1 : api_Side} {w : World} (hs1_1 : Sl Rep.u w A v1_1 a1.Counts) {r0 : List api_Fld} (h : otlp_side a0 a1 = some r0) : Rets Try.prog 89 [vi a0, ag [vi a1.Offset, v1_1]] w (fun v w' => ∃ (u0 : Value), v = u0 ∧ Ext w w' ∧ Sl rep_api_Fld w' (fun k => w.heap.size ≤ k) u0 r0) := by
 unfold otlp_side at h
 refine Rets.enter Try.func89 z z ?_
 have ab : Sl Rep.u w (imm (Lg.O0 A)) v1_1 a1.Counts := (Sl.start hs1_1)
 refine (show WC _ _ _ _ [(0, vi a0), (1, ag [vi a1.Offset, v1_1])] _ from ?_)
 refine sq (rg ?_)
 have aJ := h
 obtain ⟨aE, aF, aG, rfl⟩ := ab.shape
 have h := aJ
 refine WL.box (O := (Lg.O0 A)) 11 [vi a1.Offset, (vl aE aF aG)] z z z ?_
 intro bD ac aK j S
 refine wY (ya z) z (nl (th (sq (sq (rg (wY (yf fo29_1 z) z (wY (yl ty27 z z (S.cell 1 _ z)) z ?_)))))))
 have ad := ab.i j z z
 refine wY (Y.len ty27 z ad) z (wY (Y.eql_i z z) z (nl (th ?_)))
 rcases cnd h with ⟨T, h⟩ | ⟨T, h⟩
 ·refine WC.condT' z T (sq (rg (wY (ya z) z (nl (th (rt (At.thenR ?_)))))))
  obtain rfl := some1 h
  have aL : Stp [] (Lg.O0 A) w ac aK := (su_ j z)
  exact At.res (.inl z) z (.tmp z .nil) ⟨sn, z, (se_ aL z z), (Or.inl ⟨z, z⟩)⟩
 ·refine WC.condF' z T (sk (th (sq (WC.drawH [12, 14] [0, 1, 2, 3, 4, 5, 6, 7, 8, 9, 10, 11, 12] ac 13 fmix z (by kernel_rfl) ?_))))
  intro bw e
  refine WD.y 0 z (by kernel_rfl) (fun _ _ _ => ym z) z (WD.y 1 z (by kernel_rfl) (fun _ _ _ => yf fo29_0 z) z (WD.y 2 z (by kernel_rfl) (fun bx bE ao => have aM := S.st e z; have aN := aM.st ao z; yl ty3 z z (aN.cell 0 _ z)) z (WD.y 5 z (by kernel_rfl) (fun _ _ _ => yf fo29_1 z) z (WD.y 6 z (by kernel_rfl) (fun bz bG ap => have aO := S.st e z; have aP := aO.st ap z; yl ty27 z z (aP.cell 1 _ z)) z (WD.heavy 3 z (by kernel_rfl) ?_)))))
  obtain ⟨bi, aQ, h⟩ := bnd h
  refine WL.call (vals := [vi a1.Offset]) kok88 z z (c_pack_Zig aQ) ?_
  rintro bA bB ⟨rfl, aR⟩
  obtain ⟨bj, bk, bl, l⟩ := adoptE ac (fun k => 1) aR
  refine nl (At.dq (su_ l z) (WD.heavy 4 z (by kernel_rfl) ?_))
  obtain ⟨d, aS, h⟩ := bnd h
  refine WL.call (vals := [vi 1, vu bi]) kok61 z z (c_otlp_num aS) ?_
  rintro bC aT ⟨bm, rfl, aU, bn⟩
  obtain ⟨aH, bo, ae, o⟩ := adoptE bj (fun k => 1) aU
  have aW : Sl Rep.b aT (frs aH) bm d.B := Sl.adoptF bn (fun k hk => ⟨hk, z⟩) ae
  refine nl (At.dq (su_ o z) (WD.heavy 7 z (by kernel_rfl) ?_))
  have aZ := ((ad.i e z z).i l z z).i o z z
  obtain ⟨aI, a2, h⟩ := bnd h
  refine WL.call (vals := [(vl aE aF aG)]) kok108 z z (c_wire_Packed (A := fun _ => True) (Sl.all aZ) a2) ?_
  rintro af U ⟨_, rfl, a3, bp⟩
  obtain ⟨bq, br, ah, r⟩ := adoptE aH (fun k => if ob af = some k then 12 else 1) a3
  have ai : OwnSl 12 Rep.b 5 bq U af aI := RowF.adopt 12 Flat.b bp ah (fun k hk => if_pos hk)
  refine nl (At.dq (su_ r z) ?_)
  have a4 := h
  obtain ⟨C, D, E, rfl⟩ := ai.shape
  have h := a4
  refine WD.y 8 z (by kernel_rfl) (fun _ _ _ => yb (vals := [(0, vi 2), (1, vi 2), (3, (vl C D E))]) (cells := [vi 2, vi 2, vu 0, (vl C D E)]) (fe_ z) (by kernel_rfl)) z (WD.heavy 9 z (by kernel_rfl) ?_)
  have aj := aW.f r z
  have a5 := h
  obtain ⟨M, P, Q, rfl⟩ := aj.shape
  have h := a5
  obtain ⟨ak, t, a6⟩ := OwnSl.giveF rfl Flat.b ai
  have a7 := aj.f t z
  have a8 : Stp [12] (Lg.O0 A) w ak U := (tr_ (su_ j z) (tr_ (su_ e z) (tr_ (su_ l z) (tr_ (su_ o z) (tr_ (su_ r z) (su_ t z))))))
  have aq : Stp [12] (Lg.O0 A) w ak U := (tr_ (su_ j z) (tr_ (su_ e z) (tr_ (su_ l z) (tr_ (su_ o z) (tr_ (su_ r z) (su_ t z))))))
  refine WL.buildSlice (O := ak) (R := (frR rep_api_Fld w.heap.size)) (vals := [(0, ag [vi d.Num, vi d.Type_, vu d.V, (vl M P Q)]), (1, ag [vi 2, vi 2, vu 0, (vl C D E)])]) 13 [vi d.Num, vi d.Type_, vu d.V, (vl M P Q), vi 2, vi 2, vu 0, (vl C D E)] (xs := [d, (api_Fld.mk 2 2 0 aI)]) (by decide) ty66 ty68 (show 0 < rep_api_Fld.n by decide) (show 2 * rep_api_Fld.n ≤ 65536 by decide) (fe_ z) (by kernel_rfl) z ⟨[vi d.Num, vi d.Type_, vu d.V, (vl M P Q)], [vi 2, vi 2, vu 0, (vl C D E)], z, ⟨[vi d.Num], [vi d.Type_, vu d.V, (vl M P Q)], z, z, ⟨[vi d.Type_], [vu d.V, (vl M P Q)], z, z, ⟨[vu d.V], [(vl M P Q)], z, z, ⟨_, z, (Sl.frB a7 a8 low0)⟩⟩⟩⟩, ⟨[vi 2, vi 2, vu 0, (vl C D E)], [], z, ⟨[vi 2], [vi 2, vu 0, (vl C D E)], z, z, ⟨[vi 2], [vu 0, (vl C D E)], z, z, ⟨[vu 0], [(vl C D E)], z, z, ⟨_, z, (Sl.frB a6 aq low0)⟩⟩⟩⟩, z⟩⟩ z ?_
  intro bs a9 bt F ba
  refine nl (At.dq (tr_ (su_ t z) (su_ F z)) (WD.heavy 10 z (by kernel_rfl) ?_))
  obtain ⟨a, ar, h⟩ := bnd h
  refine WL.call (vals := [vi a0, bs]) kok30 z z (c_otlp_sub (A := fun _ => True) (Sl.unfr ba.src.sl) ar) ?_
  rintro bu W ⟨al, rfl, au, bb⟩
  obtain ⟨bc, bh, aa, G⟩ := adoptE a9 (fun k => if ob al = some k then 14 else 1) au
  have X : OwnSl 14 Rep.b 5 bc W al a.B := RowF.adopt 14 Flat.b bb aa (fun k hk => if_pos hk)
  refine nl (At.dq (su_ G z) (WD.heavy 11 z (by kernel_rfl) ?_))
  have av := h
  obtain ⟨I, J, K, rfl⟩ := X.shape
  have h := av
  obtain ⟨am, H, ax⟩ := OwnSl.giveF rfl Flat.b X
  have ay : Stp [12, 14] (Lg.O0 A) w am W := (tr_ (su_ j z) (tr_ (su_ e z) (tr_ (su_ l z) (tr_ (su_ o z) (tr_ (su_ r z) (tr_ (su_ t z) (tr_ (su_ F z) (tr_ (su_ G z) (su_ H z)))))))))
  refine WL.buildSlice (O := am) (R := (frR rep_api_Fld w.heap.size)) (vals := [(0, ag [vi a.Num, vi a.Type_, vu a.V, (vl I J K)])]) 15 [vi a.Num, vi a.Type_, vu a.V, (vl I J K)] (xs := [a]) (by decide) ty66 ty68 (show 0 < rep_api_Fld.n by decide) (show 1 * rep_api_Fld.n ≤ 65536 by decide) (fe_ z) (by kernel_rfl) z ⟨[vi a.Num, vi a.Type_, vu a.V, (vl I J K)], [], z, ⟨[vi a.Num], [vi a.Type_, vu a.V, (vl I J K)], z, z, ⟨[vi a.Type_], [vu a.V, (vl I J K)], z, z, ⟨[vu a.V], [(vl I J K)], z, z, ⟨_, z, (Sl.frB ax ay low0)⟩⟩⟩⟩, z⟩ z ?_
  intro bd bf Z L az
  refine nl (At.dq (tr_ (su_ H z) (su_ L z)) (WD.y 12 z (by kernel_rfl) (fun _ _ _ => ya z) z (WD.done_ (by kernel_rfl) (th (rt ?_)))))
  obtain rfl := some1 h
  have aA : Stp [12, 14] (Lg.O0 A) w bf Z := (tr_ (su_ j z) (tr_ (su_ e z) (tr_ (su_ l z) (tr_ (su_ o z) (tr_ (su_ r z) (tr_ (su_ t z) (tr_ (su_ F z) (tr_ (su_ G z) (tr_ (su_ H z) (su_ L z))))))))))
  obtain ⟨bg, an, aC⟩ := OwnSl.giveB rfl az aA low0
  have aD : Stp [12, 14, 15] (Lg.O0 A) w bg Z := (tr_ (su_ j z) (tr_ (su_ e z) (tr_ (su_ l z) (tr_ (su_ o z) (tr_ (su_ r z) (tr_ (su_ t z) (tr_ (su_ F z) (tr_ (su_ G z) (tr_ (su_ H z) (tr_ (su_ L z) (su_ an z)))))))))))
  exact At.res (.inl z) z (.tmp z .nil) ⟨bd, z, (se_ aD z z), (Sl.outFb aC)⟩
end Go.Lg
