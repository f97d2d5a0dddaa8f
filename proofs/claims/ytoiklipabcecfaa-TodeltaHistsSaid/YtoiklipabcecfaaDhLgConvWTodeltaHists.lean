/- The walks of TodeltaHists and of what it calls, printed by gen.py. -/
import Derived.Test.YtoiklipabcecfaaDhLgConvWTodeltaHistsx1
set_option linter.unusedVariables false
namespace Go.Lg
open Go Go.Proofs
set_option maxRecDepth 100000
set_option maxHeartbeats 4000000
theorem c_ref12_Light {A : Nat → Prop} {v0_1 : Value} {v0_13 : Value} {v0_15 : Value} {a0 : api_Point} {w : World} (hs0_1 : Sl rep_api_Pair w A v0_1 a0.Attrs) (hs0_13 : Sl Rep.u w A v0_13 a0.Hist.Pos.Counts) (hs0_15 : Sl Rep.u w A v0_15 a0.Hist.Neg.Counts) {r0 : Bool} (h : ref12_Light a0 = some r0) : Rets Try.prog 17 [ag [vs a0.Name, v0_1, vi a0.Kind, vi a0.Temp, vB a0.Mono, vi a0.Start, vi a0.Time, vi a0.Int_, vu a0.Re, vu a0.Im, vi a0.Hist.Scale, vu a0.Hist.Zero, vi a0.Hist.Pos.Offset, v0_13, vi a0.Hist.Neg.Offset, v0_15, vi a0.Flags]] w (fun v w' => v = vB r0 ∧ Ext w w') := by
 unfold ref12_Light at h
 refine Rets.enter Try.func17 z z ?_
 have n : Sl rep_api_Pair w (imm (Lg.O0 A)) v0_1 a0.Attrs := (Sl.start hs0_1)
 have o : Sl Rep.u w (imm (Lg.O0 A)) v0_13 a0.Hist.Pos.Counts := (Sl.start hs0_13)
 have p : Sl Rep.u w (imm (Lg.O0 A)) v0_15 a0.Hist.Neg.Counts := (Sl.start hs0_15)
 refine (show WC _ _ _ _ [(0, ag [vs a0.Name, v0_1, vi a0.Kind, vi a0.Temp, vB a0.Mono, vi a0.Start, vi a0.Time, vi a0.Int_, vu a0.Re, vu a0.Im, vi a0.Hist.Scale, vu a0.Hist.Zero, vi a0.Hist.Pos.Offset, v0_13, vi a0.Hist.Neg.Offset, v0_15, vi a0.Flags])] _ from ?_)
 refine sq (rg ?_)
 have P := h
 obtain ⟨J, K, L, rfl⟩ := n.shape
 have h := P
 have Q := h
 obtain ⟨q, r, t, rfl⟩ := o.shape
 have h := Q
 have S := h
 obtain ⟨C, D, E, rfl⟩ := p.shape
 have h := S
 refine WL.box (O := (Lg.O0 A)) 11 [vs a0.Name, (Value.slice J K L), vi a0.Kind, vi a0.Temp, vB a0.Mono, vi a0.Start, vi a0.Time, vi a0.Int_, vu a0.Re, vu a0.Im, vi a0.Hist.Scale, vu a0.Hist.Zero, vi a0.Hist.Pos.Offset, (Value.slice q r t), vi a0.Hist.Neg.Offset, (Value.slice C D E), vi a0.Flags] z z z ?_
 intro M F T d e
 refine wY (ya z) z (nl (th (sq (rg (wY (yf fo37_0 z) z (wY (yl ty9 z z (e.cell 0 _ z)) z (wY (Y.len_s ty9 z) z (wY (Y.leq_i z z) z (wY (ym z) z ?_)))))))))
 obtain ⟨al, h, U⟩ := bnd h
 refine WL.cut 4 (σ := (Bool × Own)) (fun x w' => x.1 = al ∧ Stp [] F T x.2 w') (fun x => [(1, pt M 0), (11, vB x.1)]) ?_ ?_
 ·rcases cnd h with ⟨j, h⟩ | ⟨j, h⟩
  ·refine WL.ren 7 z (congrArg vB j) (ug z z (wY (yf fo37_1 z) z (ug z z (wY (yl ty35 z z (e.cell 1 _ z)) z (ug z z ?_)))))
   have V := n.i d z z
   obtain ⟨am, W, h⟩ := bnd h
   refine WL.call (vals := [(Value.slice J K L)]) kok42 z z (c_ref11_Light (A := fun _ => True) (Sl.all V) W) ?_
   rintro aA aC ⟨rfl, X⟩
   obtain ⟨an, ao, ap, H⟩ := adoptE F (fun k => 1) X
   refine wY (Y.pick (b := true) z z) z ?_
   exact nl (At.join (σ := (Bool × Own)) (am, an) ⟨some1 h, (su_ H z)⟩ (.cons z (.cons z .nil)))
  ·refine WL.ren 7 z (congrArg vB j) (WL.gS z z z z (WL.gS z z z z (WL.gS z z z z (wY (Y.pick (b := false) z z) z ?_))))
   exact nl (At.join (σ := (Bool × Own)) (false, F) ⟨some1 h, (sr_ _ _ _)⟩ (.cons z (.cons z .nil)))
 ·rintro ⟨aq, G⟩ Z ⟨rfl, a⟩
  replace h := U
  try dsimp only at h a
  refine (show WL _ _ _ _ _ [(1, pt M 0), (11, vB aq)] _ from ?_)
  refine wY (ym z) z ?_
  obtain ⟨ar, h, aa⟩ := bnd h
  refine WL.cut 4 (σ := (Bool × Own)) (fun x w' => x.1 = ar ∧ Stp [] G Z x.2 w') (fun x => [(16, vB x.1)]) ?_ ?_
  ·rcases cnd h with ⟨l, h⟩ | ⟨l, h⟩
   ·refine WL.ren 12 z (congrArg vB l) (ug z z (wY (yf fo37_10 z) z (ug z z ?_)))
    have ab := e.st a z
    refine wY (yL ty30 z z (ab.cells 10 [vi a0.Hist.Scale, vu a0.Hist.Zero, vi a0.Hist.Pos.Offset, (Value.slice q r t), vi a0.Hist.Neg.Offset, (Value.slice C D E)] z) z) z (ug z z ?_)
    have ac := o.i d z z
    have ad := ac.i a z z
    have ae := p.i d z z
    have af := ae.i a z z
    obtain ⟨au, ah, h⟩ := bnd h
    refine WL.call (vals := [ag [vi a0.Hist.Scale, vu a0.Hist.Zero, vi a0.Hist.Pos.Offset, (Value.slice q r t), vi a0.Hist.Neg.Offset, (Value.slice C D E)]]) kok18 z z (c_ref08_Light (A := fun _ => True) (a0 := a0.Hist) (Sl.all ad) (Sl.all af) ah) ?_
    rintro aD aE ⟨rfl, ai⟩
    obtain ⟨av, aw, ax, I⟩ := adoptE G (fun k => 1) ai
    refine wY (Y.pick (b := true) z z) z ?_
    exact nl (At.join (σ := (Bool × Own)) (au, av) ⟨some1 h, (su_ I z)⟩ (.cons z .nil))
   ·refine WL.ren 12 z (congrArg vB l) (WL.gS z z z z (WL.gS z z z z (WL.gS z z z z (wY (Y.pick (b := false) z z) z ?_))))
    exact nl (At.join (σ := (Bool × Own)) (false, G) ⟨some1 h, (sr_ _ _ _)⟩ (.cons z .nil))
  ·rintro ⟨ay, az⟩ aj ⟨rfl, m⟩
   replace h := aa
   try dsimp only at h m
   refine (show WL _ _ _ _ _ [(16, vB ay)] _ from ?_)
   refine wY (ya z) z (nl (th (rt ?_)))
   obtain rfl := some1 h
   have ak : Stp [] (Lg.O0 A) w az aj := (tr_ (su_ d z) (tr_ (su_ a z) (su_ m z)))
   exact At.res (.inl z) z (.tmp z .nil) ⟨z, (se_ ak z z)⟩
theorem c_ref12_Some {A : Nat → Prop} {a0 : List api_Point} {v0 : Value} {a1 : Int} {w : World} (hs0 : Sl rep_api_Point w A v0 a0) {r0 : Bool} (h : ref12_Some a0 a1 = some r0) : Rets Try.prog 34 [v0, vi a1] w (fun v w' => v = vB r0 ∧ Ext w w') := by
 unfold ref12_Some at h
 refine Rets.enter Try.func34 z z ?_
 have p : Sl rep_api_Point w (imm (Lg.O0 A)) v0 a0 := (Sl.start hs0)
 refine (show WC _ _ _ _ [(0, v0), (1, vi a1)] _ from ?_)
 refine sq (rg (wY (ya z) z (nl (th (sq (sq (rg (wY (ym z) z (wY (Y.len ty22 z p) z ?_)))))))))
 refine wY (ym z) z (wY (Y.gtr_i z z) z (nl (th ?_)))
 rcases cnd h with ⟨e, h⟩ | ⟨e, h⟩
 ·refine WC.condT' z e (sq (rg (wY (ya z) z (nl (th (rt (At.thenR ?_)))))))
  obtain rfl := some1 h
  have L : Stp [] (Lg.O0 A) w (Lg.O0 A) w := (sr_ _ _ _)
  exact At.res (.inl z) z (.tmp z .nil) ⟨z, (se_ L z z)⟩
 ·refine WC.condF' z e (sk (th (sq (sq (rg (wY (ya z) z (nl (th (WC.block ?_)))))))))
  obtain ⟨E, h, q⟩ := flow1 h
  obtain ⟨F, h⟩ := loop_some h
  refine WC.joinB 0 (σ := Own) (fun x w' => E = .go () ∧ Stp [] (Lg.O0 A) w x w') (fun x => []) ?_ ?_
  ·refine WC.loop (σ := (Int × Own)) (fun x k w' => loopN k (ref12_Some_lp1 a0) x.1 = some E ∧ Stp [] (Lg.O0 A) w x.2 w') (fun x => [(0, v0), (5, vi x.1)]) (0, (Lg.O0 A)) F (.cons z (.cons z .nil)) ⟨h, (sr_ _ _ _)⟩ ?_
   rintro ⟨af, G⟩ F ao ⟨h, d⟩
   obtain ⟨ah, ar, rfl, h, j⟩ := rnd1 h
   unfold ref12_Some_lp1 at h
   try dsimp only at h d
   refine (show WC _ _ _ _ [(0, v0), (5, vi af)] _ from ?_)
   refine sq (sq (rg (wY (ym z) z (wY (ym z) z ?_))))
   have r := p.i d z z
   refine wY (Y.len ty22 z r) z (wY (Y.lss_i z z) z (nl (th ?_)))
   rcases cnd h with ⟨l, h⟩ | ⟨l, h⟩
   ·refine WC.condT' z l (sk (th (sq (WC.block (sq (rg (wY (ym z) z (wY (ym z) z ?_))))))))
    obtain ⟨a, M, h⟩ := bnd h
    obtain ⟨au, am, an, ap, P, Q, S, m, t, T⟩ := Sl.at2 r M
    obtain ⟨_, _, rfl, rfl, ⟨_, _, rfl, ⟨H, rfl, U⟩, ⟨_, _, rfl, rfl, ⟨_, _, rfl, rfl, ⟨_, _, rfl, rfl, ⟨_, _, rfl, rfl, ⟨_, _, rfl, rfl, ⟨_, _, rfl, rfl, ⟨_, _, rfl, rfl, ⟨_, _, rfl, rfl, ⟨_, _, rfl, ⟨_, _, rfl, rfl, ⟨_, _, rfl, rfl, ⟨_, _, rfl, ⟨_, _, rfl, rfl, ⟨I, rfl, V⟩⟩, ⟨_, _, rfl, rfl, ⟨J, rfl, W⟩⟩⟩⟩⟩, rfl⟩⟩⟩⟩⟩⟩⟩⟩⟩⟩⟩ := t
    replace m : CellsAt _ _ _ [vs a.Name, H, vi a.Kind, vi a.Temp, vB a.Mono, vi a.Start, vi a.Time, vi a.Int_, vu a.Re, vu a.Im, vi a.Hist.Scale, vu a.Hist.Zero, vi a.Hist.Pos.Offset, I, vi a.Hist.Neg.Offset, J, vi a.Flags] := m
    have C := CAt.imm m T
    refine wY (Y.indexAddr ty22 ty37 z P z Q S) z (wY (yL ty37 z z C.at_ z) z ?_)
    obtain ⟨av, X, h⟩ := bnd h
    refine WL.call (vals := [ag [vs a.Name, H, vi a.Kind, vi a.Temp, vB a.Mono, vi a.Start, vi a.Time, vi a.Int_, vu a.Re, vu a.Im, vi a.Hist.Scale, vu a.Hist.Zero, vi a.Hist.Pos.Offset, I, vi a.Hist.Neg.Offset, J, vi a.Flags]]) kok17 z z (c_ref12_Light (A := fun _ => True) (a0 := a) (Sl.all U) (Sl.all V) (Sl.all W) X) ?_
    rintro aq Z ⟨rfl, aa⟩
    obtain ⟨K, ai, aj, o⟩ := adoptE G (fun k => 1) aa
    refine wY (Y.not z) z (nl (th ?_))
    rcases cnd h with ⟨n, h⟩ | ⟨n, h⟩
    ·refine WC.condT' z n (sq (rg (wY (ya z) z (nl (th (rt (At.inBlockR (At.thenR (At.loopR ?_)))))))))
     have h := outr1 h j q
     refine At.joinBR (At.inBlockR (At.thenR ?_))
     obtain rfl := some1 h
     have ab : Stp [] (Lg.O0 A) w K Z := (tr_ (su_ d z) (su_ o z))
     exact At.res (.inl z) z (.tmp z .nil) ⟨z, (se_ ab z z)⟩
    ·refine WC.condF' z n (sk (At.inBlock (th (rg (wY (ym z) z (wY (Y.add_i z z) z ?_))))))
     obtain ⟨ak, ac, h⟩ := lt1 h
     refine WL.yE (ya z) (congrArg vi ac.symm) z (nl ?_)
     exact At.round (ak, K) ah (Nat.lt_succ_self _) ⟨next1 h j, (tr_ (su_ d z) (su_ o z))⟩ (.cons z (.cons z .nil))
   ·refine WC.condF' z l (WC.exit (At.thenX (At.loopX ?_)))
    exact At.hitB (σ := Own) G ⟨brk1 h j, (su_ d z)⟩ .nil
  ·rintro al ad ⟨rfl, D⟩
   replace h := flowK_go q
   refine (show At _ _ _ [] _ from ?_)
   refine At.inBlockHit (th (sq (rg (wY (ya z) z (nl (th (rt ?_)))))))
   obtain rfl := some1 h
   have ae : Stp [] (Lg.O0 A) w al ad := (su_ D z)
   exact At.res (.inl z) z (.tmp z .nil) ⟨z, (se_ ae z z)⟩
theorem c_law15_one {A : Nat → Prop} {a0 : List api_Point} {v0 : Value} {w : World} (hs0 : Sl rep_api_Point w A v0 a0) {r0 : Bool} (h : law15_one a0 = some r0) : Rets Try.prog 12 [v0] w (fun v w' => v = vB r0 ∧ Ext w w') := by
 unfold law15_one at h
 refine Rets.enter Try.func12 z z ?_
 have L : Sl rep_api_Point w (imm (Lg.O0 A)) v0 a0 := (Sl.start hs0)
 refine (show WC _ _ _ _ [(0, v0)] _ from ?_)
 refine sq (rg (wY (ya z) z (nl (th (sq (sq (rg (wY (ym z) z ?_))))))))
 obtain ⟨bS, aE, h⟩ := bnd h
 refine WL.call (vals := [v0, vi 20]) kok34 z z (c_ref12_Some (A := fun _ => True) (Sl.all L) aE) ?_
 rintro bB D ⟨rfl, aF⟩
 obtain ⟨J, a5, a6, n⟩ := adoptE (Lg.O0 A) (fun k => 1) aF
 refine wY (Y.not z) z (nl (th ?_))
 rcases cnd h with ⟨E, h⟩ | ⟨E, h⟩
 ·refine WC.condT' z E (sq (rg (wY (ya z) z (nl (th (rt (At.thenR ?_)))))))
  obtain rfl := some1 h
  have aG : Stp [] (Lg.O0 A) w J D := (su_ n z)
  exact At.res (.inl z) z (.tmp z .nil) ⟨z, (se_ aG z z)⟩
 ·refine WC.condF' z E (sk (th (sq (sq (rg (wY (ya z) z (nl (th (WC.block ?_)))))))))
  obtain ⟨aC, h, M⟩ := flow1 h
  obtain ⟨aD, h⟩ := loop_some h
  refine WC.joinB 0 (σ := Own) (fun x w' => aC = .go () ∧ Stp [] J D x w') (fun x => []) ?_ ?_
  ·refine WC.loop (σ := (Int × Own)) (fun x k w' => loopN k (law15_one_lp1 a0) x.1 = some aC ∧ Stp [] J D x.2 w') (fun x => [(0, v0), (3, vi x.1)]) (0, J) aD (.cons z (.cons z .nil)) ⟨h, (sr_ _ _ _)⟩ ?_
   rintro ⟨P, C⟩ aD bC ⟨h, l⟩
   obtain ⟨a7, bT, rfl, h, F⟩ := rnd1 h
   unfold law15_one_lp1 at h
   try dsimp only at h l
   refine (show WC _ _ _ _ [(0, v0), (3, vi P)] _ from ?_)
   refine sq (sq (rg (wY (ym z) z (wY (ym z) z ?_))))
   have aH := L.i n z z
   have Q := aH.i l z z
   refine wY (Y.len ty22 z Q) z (wY (Y.lss_i z z) z (nl (th ?_)))
   rcases cnd h with ⟨G, h⟩ | ⟨G, h⟩
   ·refine WC.condT' z G (sk (th (sq (WC.block (sq (WC.drawH [] [0, 1, 2, 3, 4, 5, 6, 7, 8, 9, 10, 11, 12, 13, 14, 15, 16, 17, 18, 19, 20, 21] C 22 fmix z (by kernel_rfl) ?_))))))
    intro S o
    refine WD.y 0 z (by kernel_rfl) (fun _ _ _ => ym z) z (WD.y 1 z (by kernel_rfl) (fun _ _ _ => ym z) z ?_)
    obtain ⟨e, aI, h⟩ := bnd h
    have p := Q.i o z z
    obtain ⟨bU, bk, bl, bD, aJ, aK, aL, H, ab, aM⟩ := Sl.at2 p aI
    obtain ⟨_, _, rfl, rfl, ⟨_, _, rfl, ⟨a8, rfl, bE⟩, ⟨_, _, rfl, rfl, ⟨_, _, rfl, rfl, ⟨_, _, rfl, rfl, ⟨_, _, rfl, rfl, ⟨_, _, rfl, rfl, ⟨_, _, rfl, rfl, ⟨_, _, rfl, rfl, ⟨_, _, rfl, rfl, ⟨_, _, rfl, ⟨_, _, rfl, rfl, ⟨_, _, rfl, rfl, ⟨_, _, rfl, ⟨_, _, rfl, rfl, ⟨a9, rfl, bF⟩⟩, ⟨_, _, rfl, rfl, ⟨ba, rfl, bG⟩⟩⟩⟩⟩, rfl⟩⟩⟩⟩⟩⟩⟩⟩⟩⟩⟩ := ab
    replace H : CellsAt _ _ _ [vs e.Name, a8, vi e.Kind, vi e.Temp, vB e.Mono, vi e.Start, vi e.Time, vi e.Int_, vu e.Re, vu e.Im, vi e.Hist.Scale, vu e.Hist.Zero, vi e.Hist.Pos.Offset, a9, vi e.Hist.Neg.Offset, ba, vi e.Flags] := H
    have ac := CAt.imm H aM
    refine WD.y 2 z (by kernel_rfl) (fun _ _ _ => Y.indexAddr ty22 ty37 z aJ z aK aL) z (WD.y 3 z (by kernel_rfl) (fun _ _ _ => yf fo37_2 z) z (WD.y 4 z (by kernel_rfl) (fun bH bW ad => have aN := ac.st ad z; yl ty3 z z (aN.at_.sub 2 [vi e.Kind] z)) z (WD.y 5 z (by kernel_rfl) (fun _ _ _ => ym z) z ?_)))
    obtain ⟨j, aO, h⟩ := bnd h
    obtain ⟨bX, bm, bn, bI, aP, aQ, aR, I, ae, aS⟩ := Sl.at2 p aO
    obtain ⟨_, _, rfl, rfl, ⟨_, _, rfl, ⟨bb, rfl, bJ⟩, ⟨_, _, rfl, rfl, ⟨_, _, rfl, rfl, ⟨_, _, rfl, rfl, ⟨_, _, rfl, rfl, ⟨_, _, rfl, rfl, ⟨_, _, rfl, rfl, ⟨_, _, rfl, rfl, ⟨_, _, rfl, rfl, ⟨_, _, rfl, ⟨_, _, rfl, rfl, ⟨_, _, rfl, rfl, ⟨_, _, rfl, ⟨_, _, rfl, rfl, ⟨bc, rfl, bK⟩⟩, ⟨_, _, rfl, rfl, ⟨bd, rfl, bL⟩⟩⟩⟩⟩, rfl⟩⟩⟩⟩⟩⟩⟩⟩⟩⟩⟩ := ae
    replace I : CellsAt _ _ _ [vs j.Name, bb, vi j.Kind, vi j.Temp, vB j.Mono, vi j.Start, vi j.Time, vi j.Int_, vu j.Re, vu j.Im, vi j.Hist.Scale, vu j.Hist.Zero, vi j.Hist.Pos.Offset, bc, vi j.Hist.Neg.Offset, bd, vi j.Flags] := I
    have af := CAt.imm I aS
    refine WD.y 6 z (by kernel_rfl) (fun _ _ _ => Y.indexAddr ty22 ty37 z aP z aQ aR) z (WD.y 7 z (by kernel_rfl) (fun _ _ _ => yf fo37_2 z) z (WD.y 8 z (by kernel_rfl) (fun bo bM T => have ah := af.st T z; yl ty3 z z (ah.at_.sub 2 [vi j.Kind] z)) z (WD.y 9 z (by kernel_rfl) (fun _ _ _ => Y.neq_i z z) z (WD.y 10 z (by kernel_rfl) (fun _ _ _ => ym z) z ?_))))
    obtain ⟨aT, h, ai⟩ := bnd h
    refine WD.join (σ := Bool) (f' := 0) [21, 20, 19, 18, 17, 16, 15, 14, 13, 12, 11, 10, 9, 8, 7, 6, 5, 4, 3, 2, 1, 0] (fun x O' w' => x = aT ∧ S = w' ∧ C = O') (fun x => [(0, v0), (3, vi P), (34, vB x)]) (fun K => ?_) ?_
    ·rcases cnd h with ⟨m, h⟩ | ⟨m, h⟩
     ·refine WD.ren 23 z (congrArg vB m) (WD.gS 11 z (by kernel_rfl) z z z z (WD.gS 12 z (by kernel_rfl) z z z z (WD.gS 13 z (by kernel_rfl) z z z z (WD.gS 14 z (by kernel_rfl) z z z z (WD.gS 15 z (by kernel_rfl) z z z z (WD.gS 16 z (by kernel_rfl) z z z z (WD.gS 17 z (by kernel_rfl) z z z z (WD.gS 18 z (by kernel_rfl) z z z z (WD.gS 19 z (by kernel_rfl) z z z z ?_)))))))))
      refine WD.gS 20 z (by kernel_rfl) z z z z (WD.y 21 z (by kernel_rfl) (fun _ _ _ => Y.pick (b := true) z z) z (WD.ren 23 z (congrArg vB m.symm) ?_))
      exact K true _ _ _ ⟨some1 h, z, z⟩ (.cons z (.cons z (.cons z .nil)))
     ·refine WD.ren 23 z (congrArg vB m) (WD.gT 11 z (by kernel_rfl) z z (fun _ _ _ => ym z) z (WD.gT 12 z (by kernel_rfl) z z (fun _ _ _ => ym z) z ?_))
      obtain ⟨a, aj, h⟩ := bnd h
      obtain ⟨bO, bf, bg, bp, ak, al, am, q, U, an⟩ := Sl.at2 p aj
      obtain ⟨_, _, rfl, rfl, ⟨_, _, rfl, ⟨aU, rfl, bq⟩, ⟨_, _, rfl, rfl, ⟨_, _, rfl, rfl, ⟨_, _, rfl, rfl, ⟨_, _, rfl, rfl, ⟨_, _, rfl, rfl, ⟨_, _, rfl, rfl, ⟨_, _, rfl, rfl, ⟨_, _, rfl, rfl, ⟨_, _, rfl, ⟨_, _, rfl, rfl, ⟨_, _, rfl, rfl, ⟨_, _, rfl, ⟨_, _, rfl, rfl, ⟨aW, rfl, br⟩⟩, ⟨_, _, rfl, rfl, ⟨aX, rfl, bs⟩⟩⟩⟩⟩, rfl⟩⟩⟩⟩⟩⟩⟩⟩⟩⟩⟩ := U
      replace q : CellsAt _ _ _ [vs a.Name, aU, vi a.Kind, vi a.Temp, vB a.Mono, vi a.Start, vi a.Time, vi a.Int_, vu a.Re, vu a.Im, vi a.Hist.Scale, vu a.Hist.Zero, vi a.Hist.Pos.Offset, aW, vi a.Hist.Neg.Offset, aX, vi a.Flags] := q
      have V := CAt.imm q an
      refine WD.gT 13 z (by kernel_rfl) z z (fun _ _ _ => Y.indexAddr ty22 ty37 z ak z al am) z (WD.gT 14 z (by kernel_rfl) z z (fun _ _ _ => yf fo37_4 z) z (WD.gT 15 z (by kernel_rfl) z z (fun bt bP W => have ao := V.st W z; yl ty4 z z (ao.at_.sub 4 [vB a.Mono] z)) z (WD.gT 16 z (by kernel_rfl) z z (fun _ _ _ => ym z) z ?_)))
      obtain ⟨d, ap, h⟩ := bnd h
      obtain ⟨bQ, bh, bi, bu, aq, ar, au, r, X, av⟩ := Sl.at2 p ap
      obtain ⟨_, _, rfl, rfl, ⟨_, _, rfl, ⟨aY, rfl, bw⟩, ⟨_, _, rfl, rfl, ⟨_, _, rfl, rfl, ⟨_, _, rfl, rfl, ⟨_, _, rfl, rfl, ⟨_, _, rfl, rfl, ⟨_, _, rfl, rfl, ⟨_, _, rfl, rfl, ⟨_, _, rfl, rfl, ⟨_, _, rfl, ⟨_, _, rfl, rfl, ⟨_, _, rfl, rfl, ⟨_, _, rfl, ⟨_, _, rfl, rfl, ⟨aZ, rfl, bx⟩⟩, ⟨_, _, rfl, rfl, ⟨a1, rfl, bz⟩⟩⟩⟩⟩, rfl⟩⟩⟩⟩⟩⟩⟩⟩⟩⟩⟩ := X
      replace r : CellsAt _ _ _ [vs d.Name, aY, vi d.Kind, vi d.Temp, vB d.Mono, vi d.Start, vi d.Time, vi d.Int_, vu d.Re, vu d.Im, vi d.Hist.Scale, vu d.Hist.Zero, vi d.Hist.Pos.Offset, aZ, vi d.Hist.Neg.Offset, a1, vi d.Flags] := r
      have Z := CAt.imm r av
      refine WD.gT 17 z (by kernel_rfl) z z (fun _ _ _ => Y.indexAddr ty22 ty37 z aq z ar au) z (WD.gT 18 z (by kernel_rfl) z z (fun _ _ _ => yf fo37_4 z) z (WD.gT 19 z (by kernel_rfl) z z (fun bA bR aa => have aw := Z.st aa z; yl ty4 z z (aw.at_.sub 4 [vB d.Mono] z)) z (WD.gT 20 z (by kernel_rfl) z z (fun _ _ _ => Y.neqB z z ty4.u) z (WD.y 21 z (by kernel_rfl) (fun _ _ _ => Y.pick (b := false) z z) z (WD.ren 23 z (congrArg vB m.symm) ?_)))))
      exact K (!decide (a.Mono = d.Mono)) _ _ _ ⟨some1 h, z, z⟩ (.cons z (.cons z (.cons z .nil)))
    ·rintro a2 _ _ ⟨rfl, rfl, rfl⟩
     replace h := ai
     try dsimp only at h
     refine (show WD _ _ _ _ _ _ _ _ [(0, v0), (3, vi P), (34, vB a2)] _ _ from ?_)
     refine WD.done_ (by kernel_rfl) (th ?_)
     rcases cnd h with ⟨t, h⟩ | ⟨t, h⟩
     ·refine WC.condT' z t (sq (rg (wY (ya z) z (nl (th (rt (At.inBlockR (At.thenR (At.loopR ?_)))))))))
      have h := outr1 h F M
      refine At.joinBR (At.inBlockR (At.thenR ?_))
      obtain rfl := some1 h
      have ax : Stp [] (Lg.O0 A) w C S := (tr_ (su_ n z) (tr_ (su_ l z) (su_ o z)))
      exact At.res (.inl z) z (.tmp z .nil) ⟨z, (se_ ax z z)⟩
     ·refine WC.condF' z t (sk (At.inBlock (th (rg (wY (ym z) z (wY (Y.add_i z z) z ?_))))))
      obtain ⟨a3, ay, h⟩ := lt1 h
      refine WL.yE (ya z) (congrArg vi ay.symm) z (nl ?_)
      exact At.round (a3, C) a7 (Nat.lt_succ_self _) ⟨next1 h F, (tr_ (su_ l z) (su_ o z))⟩ (.cons z (.cons z .nil))
   ·refine WC.condF' z G (WC.exit (At.thenX (At.loopX ?_)))
    exact At.hitB (σ := Own) C ⟨brk1 h F, (su_ l z)⟩ .nil
  ·rintro bj a4 ⟨rfl, az⟩
   replace h := flowK_go M
   refine (show At _ _ _ [] _ from ?_)
   refine At.inBlockHit (th (sq (rg (wY (ya z) z (nl (th (rt ?_)))))))
   obtain rfl := some1 h
   have aA : Stp [] (Lg.O0 A) w bj a4 := (tr_ (su_ n z) (su_ az z))
   exact At.res (.inl z) z (.tmp z .nil) ⟨z, (se_ aA z z)⟩
theorem c_law15_play {A : Nat → Prop} {a0 : List api_Point} {v0 : Value} {a1 : Int} {w : World} (hs0 : Sl rep_api_Point w A v0 a0) {r0 : List api_Point} {r1 : List api_Point} {r2 : api_State} (h : law15_play a0 a1 = some (r0, r1, r2)) : Rets Try.prog 13 [v0, vi a1] w (fun v w' => ∃ (u0 : Value) (u1 : Value) (dy : Value) (cP : Value), v = Value.tuple (List.toArray [u0, u1, ag [vB r2.Some, vi r2.Start, vi r2.Time, vi r2.Int_, vu r2.Re, vu r2.Im, vi r2.Hist.Scale, vu r2.Hist.Zero, vi r2.Hist.Pos.Offset, dy, vi r2.Hist.Neg.Offset, cP]]) ∧ Ext w w' ∧ Sl rep_api_Point w' (fun k => A k ∨ w.heap.size ≤ k) u0 r0 ∧ Sl rep_api_Point w' (fun k => A k ∨ w.heap.size ≤ k) u1 r1 ∧ Sl Rep.u w' (fun k => w.heap.size ≤ k) dy r2.Hist.Pos.Counts ∧ Sl Rep.u w' (fun k => w.heap.size ≤ k) cP r2.Hist.Neg.Counts) := by
 unfold law15_play at h
 refine Rets.enter Try.func13 z z ?_
 have lh : Sl rep_api_Point w (imm (Lg.O0 A)) v0 a0 := (Sl.start hs0)
 refine (show WC _ _ _ _ [(0, v0), (1, vi a1)] _ from ?_)
 refine sq (rg (wY (ya z) z (wY (ya z) z (WL.alloc (O := (Lg.O0 A)) 11 [vB false, vi 0, vi 0, vi 0, vu 0, vu 0, vi 0, vu 0, vi 0, Value.slice none 0 0, vi 0, Value.slice none 0 0] ty32 z z ?_))))
 intro bt m4 nZ cQ li
 refine nl (th (sq (rg (wY (ya z) z (wY (ya z) z (nl (th (sq (rg ?_)))))))))
 refine wY (yb (vals := []) (cells := [vB false, vi 0, vi 0, vi 0, vu 0, vu 0, vi 0, vu 0, vi 0, Value.slice none 0 0, vi 0, Value.slice none 0 0]) (fe_ z) (by kernel_rfl)) z (WL.alloc (O := m4) 12 [vB false, vi 0, vi 0, vi 0, vu 0, vu 0, vi 0, vu 0, vi 0, Value.slice none 0 0, vi 0, Value.slice none 0 0] ty32 z z ?_)
 intro aN cR n0 cl lj
 refine WL.store (v := ag [vB false, vi 0, vi 0, vi 0, vu 0, vu 0, vi 0, vu 0, vi 0, Value.slice none 0 0, vi 0, Value.slice none 0 0]) (cells' := [vB false, vi 0, vi 0, vi 0, vu 0, vu 0, vi 0, vu 0, vi 0, Value.slice none 0 0, vi 0, Value.slice none 0 0]) ty32 z z lj z (le_ z) z z ?_
 intro cI cm ll
 refine nl (th (sq (sq (rg (wY (ya z) z (nl (th ?_)))))))
 obtain ⟨m5, h, lm⟩ := bnd h
 refine WC.join (σ := (List api_Point × List api_Point × Bool × Int × Int × Int × UInt64 × UInt64 × Int × UInt64 × Int × List UInt64 × Int × List UInt64 × Own × Value × Value × Value × Value)) (fun x w' => (x.1, x.2.1, x.2.2.1, x.2.2.2.1, x.2.2.2.2.1, x.2.2.2.2.2.1, x.2.2.2.2.2.2.1, x.2.2.2.2.2.2.2.1, x.2.2.2.2.2.2.2.2.1, x.2.2.2.2.2.2.2.2.2.1, x.2.2.2.2.2.2.2.2.2.2.1, x.2.2.2.2.2.2.2.2.2.2.2.1, x.2.2.2.2.2.2.2.2.2.2.2.2.1, x.2.2.2.2.2.2.2.2.2.2.2.2.2.1) = m5 ∧ Stp [12, 13, 14, 15, 16, 17, 18, 19, 20, 21, 22, 24, 26, 1001, 1002, 1005, 1006, 1009, 1010, 1017, 1018] cR cI x.2.2.2.2.2.2.2.2.2.2.2.2.2.2.1 w' ∧ OwnSl 1035 rep_api_Point 37 x.2.2.2.2.2.2.2.2.2.2.2.2.2.2.1 w' x.2.2.2.2.2.2.2.2.2.2.2.2.2.2.2.1 x.1 ∧ OwnSl 1036 rep_api_Point 37 x.2.2.2.2.2.2.2.2.2.2.2.2.2.2.1 w' x.2.2.2.2.2.2.2.2.2.2.2.2.2.2.2.2.1 x.2.1 ∧ Sl Rep.u w' (frs x.2.2.2.2.2.2.2.2.2.2.2.2.2.2.1) x.2.2.2.2.2.2.2.2.2.2.2.2.2.2.2.2.2.1 x.2.2.2.2.2.2.2.2.2.2.2.1 ∧ Sl Rep.u w' (frs x.2.2.2.2.2.2.2.2.2.2.2.2.2.2.1) x.2.2.2.2.2.2.2.2.2.2.2.2.2.2.2.2.2.2 x.2.2.2.2.2.2.2.2.2.2.2.2.2.1 ∧ Blk 12 x.2.2.2.2.2.2.2.2.2.2.2.2.2.2.1 w' aN 32 [vB x.2.2.1, vi x.2.2.2.1, vi x.2.2.2.2.1, vi x.2.2.2.2.2.1, vu x.2.2.2.2.2.2.1, vu x.2.2.2.2.2.2.2.1, vi x.2.2.2.2.2.2.2.2.1, vu x.2.2.2.2.2.2.2.2.2.1, vi x.2.2.2.2.2.2.2.2.2.2.1, x.2.2.2.2.2.2.2.2.2.2.2.2.2.2.2.2.2.1, vi x.2.2.2.2.2.2.2.2.2.2.2.2.1, x.2.2.2.2.2.2.2.2.2.2.2.2.2.2.2.2.2.2]) (fun x => [(6, pt bt 0), (7, x.2.2.2.2.2.2.2.2.2.2.2.2.2.2.2.1), (8, x.2.2.2.2.2.2.2.2.2.2.2.2.2.2.2.2.1), (9, pt aN 0)]) ?_ ?_
 ·refine WC.block ?_
  obtain ⟨dz, h, ek⟩ := flow1 h
  obtain ⟨dA, h⟩ := loop_some h
  refine WC.joinB 0 (σ := (List api_Point × List api_Point × Bool × Int × Int × Int × UInt64 × UInt64 × Int × UInt64 × Int × List UInt64 × Int × List UInt64 × Own × Value × Value × Value × Value)) (fun x w' => dz = .go (x.1, x.2.1, x.2.2.1, x.2.2.2.1, x.2.2.2.2.1, x.2.2.2.2.2.1, x.2.2.2.2.2.2.1, x.2.2.2.2.2.2.2.1, x.2.2.2.2.2.2.2.2.1, x.2.2.2.2.2.2.2.2.2.1, x.2.2.2.2.2.2.2.2.2.2.1, x.2.2.2.2.2.2.2.2.2.2.2.1, x.2.2.2.2.2.2.2.2.2.2.2.2.1, x.2.2.2.2.2.2.2.2.2.2.2.2.2.1) ∧ Stp [12, 13, 14, 15, 16, 17, 18, 19, 20, 21, 22, 24, 26, 1001, 1002, 1005, 1006, 1009, 1010] cR cI x.2.2.2.2.2.2.2.2.2.2.2.2.2.2.1 w' ∧ OwnSl 1017 rep_api_Point 37 x.2.2.2.2.2.2.2.2.2.2.2.2.2.2.1 w' x.2.2.2.2.2.2.2.2.2.2.2.2.2.2.2.1 x.1 ∧ OwnSl 1018 rep_api_Point 37 x.2.2.2.2.2.2.2.2.2.2.2.2.2.2.1 w' x.2.2.2.2.2.2.2.2.2.2.2.2.2.2.2.2.1 x.2.1 ∧ Sl Rep.u w' (frs x.2.2.2.2.2.2.2.2.2.2.2.2.2.2.1) x.2.2.2.2.2.2.2.2.2.2.2.2.2.2.2.2.2.1 x.2.2.2.2.2.2.2.2.2.2.2.1 ∧ Sl Rep.u w' (frs x.2.2.2.2.2.2.2.2.2.2.2.2.2.2.1) x.2.2.2.2.2.2.2.2.2.2.2.2.2.2.2.2.2.2 x.2.2.2.2.2.2.2.2.2.2.2.2.2.1 ∧ Blk 12 x.2.2.2.2.2.2.2.2.2.2.2.2.2.2.1 w' aN 32 [vB x.2.2.1, vi x.2.2.2.1, vi x.2.2.2.2.1, vi x.2.2.2.2.2.1, vu x.2.2.2.2.2.2.1, vu x.2.2.2.2.2.2.2.1, vi x.2.2.2.2.2.2.2.2.1, vu x.2.2.2.2.2.2.2.2.2.1, vi x.2.2.2.2.2.2.2.2.2.2.1, x.2.2.2.2.2.2.2.2.2.2.2.2.2.2.2.2.2.1, vi x.2.2.2.2.2.2.2.2.2.2.2.2.1, x.2.2.2.2.2.2.2.2.2.2.2.2.2.2.2.2.2.2]) (fun x => [(6, pt bt 0), (7, x.2.2.2.2.2.2.2.2.2.2.2.2.2.2.2.1), (8, x.2.2.2.2.2.2.2.2.2.2.2.2.2.2.2.2.1), (9, pt aN 0)]) ?_ ?_
  ·refine WC.loop (σ := (List api_Point × List api_Point × Bool × Int × Int × Int × UInt64 × UInt64 × Int × UInt64 × Int × List UInt64 × Int × List UInt64 × Int × Own × Value × Value × Value × Value)) (fun x k w' => loopN k (law15_play_lp1 a0 a1) (x.1, x.2.1, x.2.2.1, x.2.2.2.1, x.2.2.2.2.1, x.2.2.2.2.2.1, x.2.2.2.2.2.2.1, x.2.2.2.2.2.2.2.1, x.2.2.2.2.2.2.2.2.1, x.2.2.2.2.2.2.2.2.2.1, x.2.2.2.2.2.2.2.2.2.2.1, x.2.2.2.2.2.2.2.2.2.2.2.1, x.2.2.2.2.2.2.2.2.2.2.2.2.1, x.2.2.2.2.2.2.2.2.2.2.2.2.2.1, x.2.2.2.2.2.2.2.2.2.2.2.2.2.2.1) = some dz ∧ Stp [12, 13, 14, 15, 16, 17, 18, 19, 20, 21, 22, 24, 26, 1001, 1002, 1005, 1006, 1009, 1010] cR cI x.2.2.2.2.2.2.2.2.2.2.2.2.2.2.2.1 w' ∧ OwnSl 1009 rep_api_Point 37 x.2.2.2.2.2.2.2.2.2.2.2.2.2.2.2.1 w' x.2.2.2.2.2.2.2.2.2.2.2.2.2.2.2.2.1 x.1 ∧ OwnSl 1010 rep_api_Point 37 x.2.2.2.2.2.2.2.2.2.2.2.2.2.2.2.1 w' x.2.2.2.2.2.2.2.2.2.2.2.2.2.2.2.2.2.1 x.2.1 ∧ Sl Rep.u w' (frs x.2.2.2.2.2.2.2.2.2.2.2.2.2.2.2.1) x.2.2.2.2.2.2.2.2.2.2.2.2.2.2.2.2.2.2.1 x.2.2.2.2.2.2.2.2.2.2.2.1 ∧ Sl Rep.u w' (frs x.2.2.2.2.2.2.2.2.2.2.2.2.2.2.2.1) x.2.2.2.2.2.2.2.2.2.2.2.2.2.2.2.2.2.2.2 x.2.2.2.2.2.2.2.2.2.2.2.2.2.1 ∧ Blk 12 x.2.2.2.2.2.2.2.2.2.2.2.2.2.2.2.1 w' aN 32 [vB x.2.2.1, vi x.2.2.2.1, vi x.2.2.2.2.1, vi x.2.2.2.2.2.1, vu x.2.2.2.2.2.2.1, vu x.2.2.2.2.2.2.2.1, vi x.2.2.2.2.2.2.2.2.1, vu x.2.2.2.2.2.2.2.2.2.1, vi x.2.2.2.2.2.2.2.2.2.2.1, x.2.2.2.2.2.2.2.2.2.2.2.2.2.2.2.2.2.2.1, vi x.2.2.2.2.2.2.2.2.2.2.2.2.1, x.2.2.2.2.2.2.2.2.2.2.2.2.2.2.2.2.2.2.2]) (fun x => [(0, v0), (1, vi a1), (6, pt bt 0), (7, x.2.2.2.2.2.2.2.2.2.2.2.2.2.2.2.2.1), (8, x.2.2.2.2.2.2.2.2.2.2.2.2.2.2.2.2.2.1), (9, pt aN 0), (10, vi x.2.2.2.2.2.2.2.2.2.2.2.2.2.2.1)]) ([], [], false, 0, 0, 0, 0, 0, 0, 0, 0, [], 0, [], 0, cR, Value.slice none 0 0, Value.slice none 0 0, Value.slice none 0 0, Value.slice none 0 0) dA (.cons z (.cons z (.cons z (.cons z (.cons z (.cons z (.cons z .nil))))))) ⟨h, (sr_ _ _ _), (OwnSl.nil 1009 rep_api_Point 37), (OwnSl.nil 1010 rep_api_Point 37), (Or.inl ⟨z, z⟩), (Or.inl ⟨z, z⟩), ll⟩ ?_
   rintro ⟨cJ, cn, aO, aP, aQ, aR, aS, aT, aU, aW, aX, b5, aY, b6, cj, ck, cE, cF, b7, b8⟩ dA ln ⟨h, b9, co, cp, a8, a9, ca⟩
   obtain ⟨lo, n3, rfl, h, cS⟩ := rnd1 h
   unfold law15_play_lp1 at h
   try dsimp only at h b9 co cp a8 a9 ca
   refine (show WC _ _ _ _ [(0, v0), (1, vi a1), (6, pt bt 0), (7, cE), (8, cF), (9, pt aN 0), (10, vi cj)] _ from ?_)
   refine sq (sq (rg (wY (ym z) z (wY (ym z) z ?_))))
   have em := lh.i cQ z z
   have en := em.i cl z z
   have eo := en.i cm z z
   have cT := eo.i b9 z z
   refine wY (Y.len ty22 z cT) z (wY (Y.lss_i z z) z (nl (th ?_)))
   rcases cnd h with ⟨cq, h⟩ | ⟨cq, h⟩
   ·refine WC.condT' z cq (sk (th (sq ?_)))
    obtain ⟨lp, h, ep⟩ := bnd h
    refine WC.join (σ := (List api_Point × List api_Point × Bool × Int × Int × Int × UInt64 × UInt64 × Int × UInt64 × Int × List UInt64 × Int × List UInt64 × Own × Value × Value × Value × Value)) (fun x w' => (x.1, x.2.1, x.2.2.1, x.2.2.2.1, x.2.2.2.2.1, x.2.2.2.2.2.1, x.2.2.2.2.2.2.1, x.2.2.2.2.2.2.2.1, x.2.2.2.2.2.2.2.2.1, x.2.2.2.2.2.2.2.2.2.1, x.2.2.2.2.2.2.2.2.2.2.1, x.2.2.2.2.2.2.2.2.2.2.2.1, x.2.2.2.2.2.2.2.2.2.2.2.2.1, x.2.2.2.2.2.2.2.2.2.2.2.2.2.1) = lp ∧ Stp [12, 13, 14, 15, 16, 17, 18, 19, 20, 21, 22, 1001, 1002, 1009, 1010] ck ln x.2.2.2.2.2.2.2.2.2.2.2.2.2.2.1 w' ∧ OwnSl 1005 rep_api_Point 37 x.2.2.2.2.2.2.2.2.2.2.2.2.2.2.1 w' x.2.2.2.2.2.2.2.2.2.2.2.2.2.2.2.1 x.1 ∧ OwnSl 1006 rep_api_Point 37 x.2.2.2.2.2.2.2.2.2.2.2.2.2.2.1 w' x.2.2.2.2.2.2.2.2.2.2.2.2.2.2.2.2.1 x.2.1 ∧ Sl Rep.u w' (frs x.2.2.2.2.2.2.2.2.2.2.2.2.2.2.1) x.2.2.2.2.2.2.2.2.2.2.2.2.2.2.2.2.2.1 x.2.2.2.2.2.2.2.2.2.2.2.1 ∧ Sl Rep.u w' (frs x.2.2.2.2.2.2.2.2.2.2.2.2.2.2.1) x.2.2.2.2.2.2.2.2.2.2.2.2.2.2.2.2.2.2 x.2.2.2.2.2.2.2.2.2.2.2.2.2.1 ∧ Blk 12 x.2.2.2.2.2.2.2.2.2.2.2.2.2.2.1 w' aN 32 [vB x.2.2.1, vi x.2.2.2.1, vi x.2.2.2.2.1, vi x.2.2.2.2.2.1, vu x.2.2.2.2.2.2.1, vu x.2.2.2.2.2.2.2.1, vi x.2.2.2.2.2.2.2.2.1, vu x.2.2.2.2.2.2.2.2.2.1, vi x.2.2.2.2.2.2.2.2.2.2.1, x.2.2.2.2.2.2.2.2.2.2.2.2.2.2.2.2.2.1, vi x.2.2.2.2.2.2.2.2.2.2.2.2.1, x.2.2.2.2.2.2.2.2.2.2.2.2.2.2.2.2.2.2]) (fun x => [(0, v0), (1, vi a1), (6, pt bt 0), (7, x.2.2.2.2.2.2.2.2.2.2.2.2.2.2.2.1), (8, x.2.2.2.2.2.2.2.2.2.2.2.2.2.2.2.2.1), (9, pt aN 0), (10, vi cj)]) ?_ ?_
    ·refine WC.block (sq (WC.drawH [13, 14, 15, 16, 17, 18, 19, 20, 21, 22, 1001, 1002] [0, 1, 2, 3, 4, 5, 6, 7, 8, 9, 10, 11, 12, 13, 14, 15] ck 16 fmix z (by kernel_rfl) ?_))
     intro er j
     refine WD.y 0 z (by kernel_rfl) (fun nr n4 dB => have es := ca.st j z; have et := es.st dB z; yL ty32 z z (et.cells 0 [vB aO, vi aP, vi aQ, vi aR, vu aS, vu aT, vi aU, vu aW, vi aX, b7, vi aY, b8] z) z) z (WD.y 1 z (by kernel_rfl) (fun _ _ _ => ym z) z (WD.y 2 z (by kernel_rfl) (fun _ _ _ => ym z) z ?_))
     obtain ⟨d, eu, h⟩ := bnd h
     have cU := cT.i j z z
     obtain ⟨n5, m6, m7, ns, ew, ex, ey, cr, dC, ez⟩ := Sl.at2 cU eu
     obtain ⟨_, _, rfl, rfl, ⟨_, _, rfl, ⟨bT, rfl, bH⟩, ⟨_, _, rfl, rfl, ⟨_, _, rfl, rfl, ⟨_, _, rfl, rfl, ⟨_, _, rfl, rfl, ⟨_, _, rfl, rfl, ⟨_, _, rfl, rfl, ⟨_, _, rfl, rfl, ⟨_, _, rfl, rfl, ⟨_, _, rfl, ⟨_, _, rfl, rfl, ⟨_, _, rfl, rfl, ⟨_, _, rfl, ⟨_, _, rfl, rfl, ⟨bU, rfl, bI⟩⟩, ⟨_, _, rfl, rfl, ⟨bW, rfl, bJ⟩⟩⟩⟩⟩, rfl⟩⟩⟩⟩⟩⟩⟩⟩⟩⟩⟩ := dC
     replace cr : CellsAt _ _ _ [vs d.Name, bT, vi d.Kind, vi d.Temp, vB d.Mono, vi d.Start, vi d.Time, vi d.Int_, vu d.Re, vu d.Im, vi d.Hist.Scale, vu d.Hist.Zero, vi d.Hist.Pos.Offset, bU, vi d.Hist.Neg.Offset, bW, vi d.Flags] := cr
     have dD := CAt.imm cr ez
     refine WD.y 3 z (by kernel_rfl) (fun _ _ _ => Y.indexAddr ty22 ty37 z ew z ex ey) z (WD.y 4 z (by kernel_rfl) (fun nt n6 dE => have eA := dD.st dE z; yL ty37 z z eA.at_ z) z (WD.y 5 z (by kernel_rfl) (fun _ _ _ => ym z) z ?_))
     obtain ⟨lq, eB, h⟩ := rhs1 h
     refine WD.join (σ := (Bool × Int × Int × Int × UInt64 × UInt64 × Int × UInt64 × Int × List UInt64 × Int × List UInt64 × List UInt8 × List api_Pair × Int × Int × Bool × Int × Int × Int × UInt64 × UInt64 × Int × UInt64 × Int × List UInt64 × Int × List UInt64 × Int × Int × Own × Nat × Nat × Value × Value × Value × Value × Value)) (f' := 3) [12, 11, 10, 9, 8, 7, 6, 5, 4, 3, 2, 1, 0] (fun x O' w' => law15_play_k2 a0 cJ cn aO aP aQ aR aS aT aU aW aX b5 aY b6 cj (x.1, x.2.1, x.2.2.1, x.2.2.2.1, x.2.2.2.2.1, x.2.2.2.2.2.1, x.2.2.2.2.2.2.1, x.2.2.2.2.2.2.2.1, x.2.2.2.2.2.2.2.2.1, x.2.2.2.2.2.2.2.2.2.1, x.2.2.2.2.2.2.2.2.2.2.1, x.2.2.2.2.2.2.2.2.2.2.2.1, x.2.2.2.2.2.2.2.2.2.2.2.2.1, x.2.2.2.2.2.2.2.2.2.2.2.2.2.1, x.2.2.2.2.2.2.2.2.2.2.2.2.2.2.1, x.2.2.2.2.2.2.2.2.2.2.2.2.2.2.2.1, x.2.2.2.2.2.2.2.2.2.2.2.2.2.2.2.2.1, x.2.2.2.2.2.2.2.2.2.2.2.2.2.2.2.2.2.1, x.2.2.2.2.2.2.2.2.2.2.2.2.2.2.2.2.2.2.1, x.2.2.2.2.2.2.2.2.2.2.2.2.2.2.2.2.2.2.2.1, x.2.2.2.2.2.2.2.2.2.2.2.2.2.2.2.2.2.2.2.2.1, x.2.2.2.2.2.2.2.2.2.2.2.2.2.2.2.2.2.2.2.2.2.1, x.2.2.2.2.2.2.2.2.2.2.2.2.2.2.2.2.2.2.2.2.2.2.1, x.2.2.2.2.2.2.2.2.2.2.2.2.2.2.2.2.2.2.2.2.2.2.2.1, x.2.2.2.2.2.2.2.2.2.2.2.2.2.2.2.2.2.2.2.2.2.2.2.2.1, x.2.2.2.2.2.2.2.2.2.2.2.2.2.2.2.2.2.2.2.2.2.2.2.2.2.1, x.2.2.2.2.2.2.2.2.2.2.2.2.2.2.2.2.2.2.2.2.2.2.2.2.2.2.1, x.2.2.2.2.2.2.2.2.2.2.2.2.2.2.2.2.2.2.2.2.2.2.2.2.2.2.2.1, x.2.2.2.2.2.2.2.2.2.2.2.2.2.2.2.2.2.2.2.2.2.2.2.2.2.2.2.2.1, x.2.2.2.2.2.2.2.2.2.2.2.2.2.2.2.2.2.2.2.2.2.2.2.2.2.2.2.2.2.1) = some lq ∧ Stp [13, 14, 15, 16, 17, 18, 19, 20, 21, 22] ck er x.2.2.2.2.2.2.2.2.2.2.2.2.2.2.2.2.2.2.2.2.2.2.2.2.2.2.2.2.2.2.1 w' ∧ Blk 1001 x.2.2.2.2.2.2.2.2.2.2.2.2.2.2.2.2.2.2.2.2.2.2.2.2.2.2.2.2.2.2.1 w' x.2.2.2.2.2.2.2.2.2.2.2.2.2.2.2.2.2.2.2.2.2.2.2.2.2.2.2.2.2.2.2.1 32 [vB false, vi 0, vi 0, vi 0, vu 0, vu 0, vi 0, vu 0, vi 0, Value.slice none 0 0, vi 0, Value.slice none 0 0] ∧ Blk 1002 x.2.2.2.2.2.2.2.2.2.2.2.2.2.2.2.2.2.2.2.2.2.2.2.2.2.2.2.2.2.2.1 w' x.2.2.2.2.2.2.2.2.2.2.2.2.2.2.2.2.2.2.2.2.2.2.2.2.2.2.2.2.2.2.2.2.1 37 [vs [], Value.slice none 0 0, vi 0, vi 0, vB false, vi 0, vi 0, vi 0, vu 0, vu 0, vi 0, vu 0, vi 0, Value.slice none 0 0, vi 0, Value.slice none 0 0, vi 0] ∧ Sl Rep.u w' (frs x.2.2.2.2.2.2.2.2.2.2.2.2.2.2.2.2.2.2.2.2.2.2.2.2.2.2.2.2.2.2.1) x.2.2.2.2.2.2.2.2.2.2.2.2.2.2.2.2.2.2.2.2.2.2.2.2.2.2.2.2.2.2.2.2.2.1 x.2.2.2.2.2.2.2.2.2.1 ∧ Sl Rep.u w' (frs x.2.2.2.2.2.2.2.2.2.2.2.2.2.2.2.2.2.2.2.2.2.2.2.2.2.2.2.2.2.2.1) x.2.2.2.2.2.2.2.2.2.2.2.2.2.2.2.2.2.2.2.2.2.2.2.2.2.2.2.2.2.2.2.2.2.2.1 x.2.2.2.2.2.2.2.2.2.2.2.1 ∧ Sl rep_api_Pair w' (frs x.2.2.2.2.2.2.2.2.2.2.2.2.2.2.2.2.2.2.2.2.2.2.2.2.2.2.2.2.2.2.1) x.2.2.2.2.2.2.2.2.2.2.2.2.2.2.2.2.2.2.2.2.2.2.2.2.2.2.2.2.2.2.2.2.2.2.2.1 x.2.2.2.2.2.2.2.2.2.2.2.2.2.1 ∧ Sl Rep.u w' (frs x.2.2.2.2.2.2.2.2.2.2.2.2.2.2.2.2.2.2.2.2.2.2.2.2.2.2.2.2.2.2.1) x.2.2.2.2.2.2.2.2.2.2.2.2.2.2.2.2.2.2.2.2.2.2.2.2.2.2.2.2.2.2.2.2.2.2.2.2.1 x.2.2.2.2.2.2.2.2.2.2.2.2.2.2.2.2.2.2.2.2.2.2.2.2.2.1 ∧ Sl Rep.u w' (frs x.2.2.2.2.2.2.2.2.2.2.2.2.2.2.2.2.2.2.2.2.2.2.2.2.2.2.2.2.2.2.1) x.2.2.2.2.2.2.2.2.2.2.2.2.2.2.2.2.2.2.2.2.2.2.2.2.2.2.2.2.2.2.2.2.2.2.2.2.2 x.2.2.2.2.2.2.2.2.2.2.2.2.2.2.2.2.2.2.2.2.2.2.2.2.2.2.2.1 ∧ x.2.2.2.2.2.2.2.2.2.2.2.2.2.2.2.2.2.2.2.2.2.2.2.2.2.2.2.2.2.2.1 = O') (fun x => [(0, v0), (1, vi a1), (6, pt bt 0), (7, cE), (8, cF), (9, pt aN 0), (10, vi cj), (11, Value.pointer (some ⟨x.2.2.2.2.2.2.2.2.2.2.2.2.2.2.2.2.2.2.2.2.2.2.2.2.2.2.2.2.2.2.2.1, 0, none⟩)), (12, Value.pointer (some ⟨x.2.2.2.2.2.2.2.2.2.2.2.2.2.2.2.2.2.2.2.2.2.2.2.2.2.2.2.2.2.2.2.2.1, 0, none⟩)), (29, ag [vB x.1, vi x.2.1, vi x.2.2.1, vi x.2.2.2.1, vu x.2.2.2.2.1, vu x.2.2.2.2.2.1, vi x.2.2.2.2.2.2.1, vu x.2.2.2.2.2.2.2.1, vi x.2.2.2.2.2.2.2.2.1, x.2.2.2.2.2.2.2.2.2.2.2.2.2.2.2.2.2.2.2.2.2.2.2.2.2.2.2.2.2.2.2.2.2.1, vi x.2.2.2.2.2.2.2.2.2.2.1, x.2.2.2.2.2.2.2.2.2.2.2.2.2.2.2.2.2.2.2.2.2.2.2.2.2.2.2.2.2.2.2.2.2.2.1]), (30, ag [vs x.2.2.2.2.2.2.2.2.2.2.2.2.1, x.2.2.2.2.2.2.2.2.2.2.2.2.2.2.2.2.2.2.2.2.2.2.2.2.2.2.2.2.2.2.2.2.2.2.2.1, vi x.2.2.2.2.2.2.2.2.2.2.2.2.2.2.1, vi x.2.2.2.2.2.2.2.2.2.2.2.2.2.2.2.1, vB x.2.2.2.2.2.2.2.2.2.2.2.2.2.2.2.2.1, vi x.2.2.2.2.2.2.2.2.2.2.2.2.2.2.2.2.2.1, vi x.2.2.2.2.2.2.2.2.2.2.2.2.2.2.2.2.2.2.1, vi x.2.2.2.2.2.2.2.2.2.2.2.2.2.2.2.2.2.2.2.1, vu x.2.2.2.2.2.2.2.2.2.2.2.2.2.2.2.2.2.2.2.2.1, vu x.2.2.2.2.2.2.2.2.2.2.2.2.2.2.2.2.2.2.2.2.2.1, vi x.2.2.2.2.2.2.2.2.2.2.2.2.2.2.2.2.2.2.2.2.2.2.1, vu x.2.2.2.2.2.2.2.2.2.2.2.2.2.2.2.2.2.2.2.2.2.2.2.1, vi x.2.2.2.2.2.2.2.2.2.2.2.2.2.2.2.2.2.2.2.2.2.2.2.2.1, x.2.2.2.2.2.2.2.2.2.2.2.2.2.2.2.2.2.2.2.2.2.2.2.2.2.2.2.2.2.2.2.2.2.2.2.2.1, vi x.2.2.2.2.2.2.2.2.2.2.2.2.2.2.2.2.2.2.2.2.2.2.2.2.2.2.1, x.2.2.2.2.2.2.2.2.2.2.2.2.2.2.2.2.2.2.2.2.2.2.2.2.2.2.2.2.2.2.2.2.2.2.2.2.2, vi x.2.2.2.2.2.2.2.2.2.2.2.2.2.2.2.2.2.2.2.2.2.2.2.2.2.2.2.2.1]), (31, vi x.2.2.2.2.2.2.2.2.2.2.2.2.2.2.2.2.2.2.2.2.2.2.2.2.2.2.2.2.2.1)]) (fun bs => ?_) ?_
     ·refine WD.heavy3 6 11 12 z z z (by kernel_rfl) ?_ ?_ ?_
      ·have eC := a8.f j z
       have eD := a9.f j z
       obtain ⟨⟨n, e, dF⟩, eE, h⟩ := bnd h
       refine WL.call (vals := [ag [vB aO, vi aP, vi aQ, vi aR, vu aS, vu aT, vi aU, vu aW, vi aX, b7, vi aY, b8], ag [vs d.Name, bT, vi d.Kind, vi d.Temp, vB d.Mono, vi d.Start, vi d.Time, vi d.Int_, vu d.Re, vu d.Im, vi d.Hist.Scale, vu d.Hist.Zero, vi d.Hist.Pos.Offset, bU, vi d.Hist.Neg.Offset, bW, vi d.Flags], vi a1]) kok33 z z (c_todelta_Next (A := fun _ => True) (a0 := (api_State.mk aO aP aQ aR aS aT (api_Hist.mk aU aW (api_Side.mk aX b5) (api_Side.mk aY b6)))) (a1 := d) (Sl.all eC) (Sl.all eD) (Sl.all bH) (Sl.all bI) (Sl.all bJ) eE) ?_
       rintro nu bK ⟨cK, cL, cM, cN, cO, rfl, eF, lr, ls, lu, lv, lw⟩
       obtain ⟨bu, mX, aZ, cb⟩ := adoptE ck (fun k => 1) eF
       have cV : Sl Rep.u bK (frs bu) cK n.Hist.Pos.Counts := Sl.adoptF lr (fun k hk => ⟨hk, z⟩) aZ
       have cW : Sl Rep.u bK (frs bu) cL n.Hist.Neg.Counts := Sl.adoptF ls (fun k hk => ⟨hk, z⟩) aZ
       have cX : Sl rep_api_Pair bK (frs bu) cM e.Attrs := Sl.adoptF lu (fun k hk => ⟨hk, z⟩) aZ
       have cY : Sl Rep.u bK (frs bu) cN e.Hist.Pos.Counts := Sl.adoptF lv (fun k hk => ⟨hk, z⟩) aZ
       have cZ : Sl Rep.u bK (frs bu) cO e.Hist.Neg.Counts := Sl.adoptF lw (fun k hk => ⟨hk, z⟩) aZ
       refine nl (At.dq (su_ cb z) (WD.y 7 z (by kernel_rfl) (fun _ _ _ => ym z) z (WD.y 8 z (by kernel_rfl) (fun _ _ _ => yx z z) z (WD.y 9 z (by kernel_rfl) (fun _ _ _ => yx z z) z (WD.y 10 z (by kernel_rfl) (fun _ _ _ => yx z z) z ?_)))))
       refine WD.heavy2 11 12 z z (by kernel_rfl) ?_ ?_
       ·refine WL.alloc (O := bu) 13 [vB false, vi 0, vi 0, vi 0, vu 0, vu 0, vi 0, vu 0, vi 0, Value.slice none 0 0, vi 0, Value.slice none 0 0] ty32 z z ?_
        intro lx ly nv aI eG
        refine nl (At.dq (su_ aI z) (WD.heavy 12 z (by kernel_rfl) (WL.alloc (O := ly) 14 [vs [], Value.slice none 0 0, vi 0, vi 0, vB false, vi 0, vi 0, vi 0, vu 0, vu 0, vi 0, vu 0, vi 0, Value.slice none 0 0, vi 0, Value.slice none 0 0, vi 0] ty37 z z ?_)))
        intro lA n7 nw am eH
        refine nl (At.dq (su_ am z) ?_)
        have eI := eG.st am z
        obtain ⟨n9, an, eJ⟩ := Blk.rlb 1001 rfl eI
        have eK := eH.st an z
        obtain ⟨lB, ao, eL⟩ := Blk.rlb 1002 rfl eK
        have eM := eJ.st ao z
        have eN := cV.f aI z
        have eO := eN.f am z
        have eP := eO.f an z
        have eQ := eP.f ao z
        have eR := cW.f aI z
        have eS := eR.f am z
        have eT := eS.f an z
        have eU := eT.f ao z
        have eV := cX.f aI z
        have eW := eV.f am z
        have eX := eW.f an z
        have eY := eX.f ao z
        have eZ := cY.f aI z
        have e0 := eZ.f am z
        have e1 := e0.f an z
        have e2 := e1.f ao z
        have e5 := cZ.f aI z
        have e6 := e5.f am z
        have e7 := e6.f an z
        have e8 := e7.f ao z
        refine WD.own (tr_ (su_ an z) (su_ ao z)) (WD.perm _ [12, 11, 10, 9, 8, 7, 6, 5, 4, 3, 2, 1, 0] (by kernel_rfl) ?_)
        exact bs (n.Some, n.Start, n.Time, n.Int_, n.Re, n.Im, n.Hist.Scale, n.Hist.Zero, n.Hist.Pos.Offset, n.Hist.Pos.Counts, n.Hist.Neg.Offset, n.Hist.Neg.Counts, e.Name, e.Attrs, e.Kind, e.Temp, e.Mono, e.Start, e.Time, e.Int_, e.Re, e.Im, e.Hist.Scale, e.Hist.Zero, e.Hist.Pos.Offset, e.Hist.Pos.Counts, e.Hist.Neg.Offset, e.Hist.Neg.Counts, e.Flags, dF, lB, lx, lA, cK, cL, cM, cN, cO) _ _ _ ⟨h, (tr_ (su_ cb z) (tr_ (su_ aI z) (tr_ (su_ am z) (tr_ (su_ an z) (su_ ao z))))), eM, eL, eQ, eU, eY, e2, e8, z⟩ (.cons z (.cons z (.cons z (.cons z (.cons z (.cons z (.cons z (.cons z (.cons z (.cons z (.cons z (.cons z .nil))))))))))))
       ·refine WL.alloc (O := bu) 15 [vs [], Value.slice none 0 0, vi 0, vi 0, vB false, vi 0, vi 0, vi 0, vu 0, vu 0, vi 0, vu 0, vi 0, Value.slice none 0 0, vi 0, Value.slice none 0 0, vi 0] ty37 z z ?_
        intro lC lD nx aJ e9
        refine nl (At.dq (su_ aJ z) (WD.heavy 11 z (by kernel_rfl) (WL.alloc (O := lD) 16 [vB false, vi 0, vi 0, vi 0, vu 0, vu 0, vi 0, vu 0, vi 0, Value.slice none 0 0, vi 0, Value.slice none 0 0] ty32 z z ?_)))
        intro lE oa ny ap fa
        refine nl (At.dq (su_ ap z) ?_)
        obtain ⟨oc, aq, fb⟩ := Blk.rlb 1001 rfl fa
        have fc := e9.st ap z
        have fd := fc.st aq z
        obtain ⟨lF, ar, fe⟩ := Blk.rlb 1002 rfl fd
        have ff := fb.st ar z
        have fg := cV.f aJ z
        have fh := fg.f ap z
        have fi := fh.f aq z
        have fj := fi.f ar z
        have fk := cW.f aJ z
        have fl := fk.f ap z
        have fm := fl.f aq z
        have fn := fm.f ar z
        have fo := cX.f aJ z
        have fp := fo.f ap z
        have fq := fp.f aq z
        have fr := fq.f ar z
        have fs := cY.f aJ z
        have ft := fs.f ap z
        have fu := ft.f aq z
        have fv := fu.f ar z
        have fw := cZ.f aJ z
        have fx := fw.f ap z
        have fy := fx.f aq z
        have fz := fy.f ar z
        refine WD.own (tr_ (su_ aq z) (su_ ar z)) (WD.perm _ [12, 11, 10, 9, 8, 7, 6, 5, 4, 3, 2, 1, 0] (by kernel_rfl) ?_)
        exact bs (n.Some, n.Start, n.Time, n.Int_, n.Re, n.Im, n.Hist.Scale, n.Hist.Zero, n.Hist.Pos.Offset, n.Hist.Pos.Counts, n.Hist.Neg.Offset, n.Hist.Neg.Counts, e.Name, e.Attrs, e.Kind, e.Temp, e.Mono, e.Start, e.Time, e.Int_, e.Re, e.Im, e.Hist.Scale, e.Hist.Zero, e.Hist.Pos.Offset, e.Hist.Pos.Counts, e.Hist.Neg.Offset, e.Hist.Neg.Counts, e.Flags, dF, lF, lE, lC, cK, cL, cM, cN, cO) _ _ _ ⟨h, (tr_ (su_ cb z) (tr_ (su_ aJ z) (tr_ (su_ ap z) (tr_ (su_ aq z) (su_ ar z))))), ff, fe, fj, fn, fr, fv, fz, z⟩ (.cons z (.cons z (.cons z (.cons z (.cons z (.cons z (.cons z (.cons z (.cons z (.cons z (.cons z (.cons z .nil))))))))))))
      ·refine WL.alloc (O := ck) 17 [vB false, vi 0, vi 0, vi 0, vu 0, vu 0, vi 0, vu 0, vi 0, Value.slice none 0 0, vi 0, Value.slice none 0 0] ty32 z z ?_
       intro dG dH nA G c0
       refine nl (At.dq (su_ G z) ?_)
       refine WD.heavy2 6 12 z z (by kernel_rfl) ?_ ?_
       ·have fA := a8.f j z
        have fB := fA.f G z
        have fC := a9.f j z
        have fD := fC.f G z
        have fF := bH.i G z z
        have fG := bI.i G z z
        have fH := bJ.i G z z
        obtain ⟨⟨af, H, lG⟩, fI, h⟩ := bnd h
        refine WL.call (vals := [ag [vB aO, vi aP, vi aQ, vi aR, vu aS, vu aT, vi aU, vu aW, vi aX, b7, vi aY, b8], ag [vs d.Name, bT, vi d.Kind, vi d.Temp, vB d.Mono, vi d.Start, vi d.Time, vi d.Int_, vu d.Re, vu d.Im, vi d.Hist.Scale, vu d.Hist.Zero, vi d.Hist.Pos.Offset, bU, vi d.Hist.Neg.Offset, bW, vi d.Flags], vi a1]) kok33 z z (c_todelta_Next (A := fun _ => True) (a0 := (api_State.mk aO aP aQ aR aS aT (api_Hist.mk aU aW (api_Side.mk aX b5) (api_Side.mk aY b6)))) (a1 := d) (Sl.all fB) (Sl.all fD) (Sl.all fF) (Sl.all fG) (Sl.all fH) fI) ?_
        rintro nB bL ⟨dI, dJ, dK, dL, dM, rfl, fJ, lH, lI, lJ, lK, lL⟩
        obtain ⟨bX, mY, a2, cc⟩ := adoptE dH (fun k => 1) fJ
        have fK : Sl Rep.u bL (frs bX) dI af.Hist.Pos.Counts := Sl.adoptF lH (fun k hk => ⟨hk, z⟩) a2
        have fL : Sl Rep.u bL (frs bX) dJ af.Hist.Neg.Counts := Sl.adoptF lI (fun k hk => ⟨hk, z⟩) a2
        have fN : Sl rep_api_Pair bL (frs bX) dK H.Attrs := Sl.adoptF lJ (fun k hk => ⟨hk, z⟩) a2
        have fO : Sl Rep.u bL (frs bX) dL H.Hist.Pos.Counts := Sl.adoptF lK (fun k hk => ⟨hk, z⟩) a2
        have fP : Sl Rep.u bL (frs bX) dM H.Hist.Neg.Counts := Sl.adoptF lL (fun k hk => ⟨hk, z⟩) a2
        refine nl (At.dq (su_ cc z) (WD.y 7 z (by kernel_rfl) (fun _ _ _ => ym z) z (WD.y 8 z (by kernel_rfl) (fun _ _ _ => yx z z) z (WD.y 9 z (by kernel_rfl) (fun _ _ _ => yx z z) z (WD.y 10 z (by kernel_rfl) (fun _ _ _ => yx z z) z (WD.heavy 12 z (by kernel_rfl) (WL.alloc (O := bX) 18 [vs [], Value.slice none 0 0, vi 0, vi 0, vB false, vi 0, vi 0, vi 0, vu 0, vu 0, vi 0, vu 0, vi 0, Value.slice none 0 0, vi 0, Value.slice none 0 0, vi 0] ty37 z z ?_)))))))
        intro lM od nC au fQ
        refine nl (At.dq (su_ au z) ?_)
        have fR := c0.st cc z
        have fT := fR.st au z
        obtain ⟨oe, av, fU⟩ := Blk.rlb 1001 rfl fT
        have fV := fQ.st av z
        obtain ⟨lN, aw, fY⟩ := Blk.rlb 1002 rfl fV
        have f0 := fU.st aw z
        have f1 := fK.f au z
        have f2 := f1.f av z
        have f3 := f2.f aw z
        have f4 := fL.f au z
        have f5 := f4.f av z
        have f6 := f5.f aw z
        have f7 := fN.f au z
        have f8 := f7.f av z
        have f9 := f8.f aw z
        have ga := fO.f au z
        have gb := ga.f av z
        have gc := gb.f aw z
        have gd := fP.f au z
        have ge := gd.f av z
        have gf := ge.f aw z
        refine WD.own (tr_ (su_ av z) (su_ aw z)) (WD.perm _ [12, 11, 10, 9, 8, 7, 6, 5, 4, 3, 2, 1, 0] (by kernel_rfl) ?_)
        exact bs (af.Some, af.Start, af.Time, af.Int_, af.Re, af.Im, af.Hist.Scale, af.Hist.Zero, af.Hist.Pos.Offset, af.Hist.Pos.Counts, af.Hist.Neg.Offset, af.Hist.Neg.Counts, H.Name, H.Attrs, H.Kind, H.Temp, H.Mono, H.Start, H.Time, H.Int_, H.Re, H.Im, H.Hist.Scale, H.Hist.Zero, H.Hist.Pos.Offset, H.Hist.Pos.Counts, H.Hist.Neg.Offset, H.Hist.Neg.Counts, H.Flags, lG, lN, dG, lM, dI, dJ, dK, dL, dM) _ _ _ ⟨h, (tr_ (su_ G z) (tr_ (su_ cc z) (tr_ (su_ au z) (tr_ (su_ av z) (su_ aw z))))), f0, fY, f3, f6, f9, gc, gf, z⟩ (.cons z (.cons z (.cons z (.cons z (.cons z (.cons z (.cons z (.cons z (.cons z (.cons z (.cons z (.cons z .nil))))))))))))
       ·refine WL.alloc (O := dH) 19 [vs [], Value.slice none 0 0, vi 0, vi 0, vB false, vi 0, vi 0, vi 0, vu 0, vu 0, vi 0, vu 0, vi 0, Value.slice none 0 0, vi 0, Value.slice none 0 0, vi 0] ty37 z z ?_
        intro lO lP nD ax gg
        refine nl (At.dq (su_ ax z) (WD.heavy 6 z (by kernel_rfl) ?_))
        have gh := a8.f j z
        have gi := gh.f G z
        have gj := gi.f ax z
        have gk := a9.f j z
        have gl := gk.f G z
        have gm := gl.f ax z
        have gn := bH.i G z z
        have gp := gn.i ax z z
        have gq := bI.i G z z
        have gr := gq.i ax z z
        have gs := bJ.i G z z
        have gt := gs.i ax z z
        obtain ⟨⟨ah, I, lQ⟩, gu, h⟩ := bnd h
        refine WL.call (vals := [ag [vB aO, vi aP, vi aQ, vi aR, vu aS, vu aT, vi aU, vu aW, vi aX, b7, vi aY, b8], ag [vs d.Name, bT, vi d.Kind, vi d.Temp, vB d.Mono, vi d.Start, vi d.Time, vi d.Int_, vu d.Re, vu d.Im, vi d.Hist.Scale, vu d.Hist.Zero, vi d.Hist.Pos.Offset, bU, vi d.Hist.Neg.Offset, bW, vi d.Flags], vi a1]) kok33 z z (c_todelta_Next (A := fun _ => True) (a0 := (api_State.mk aO aP aQ aR aS aT (api_Hist.mk aU aW (api_Side.mk aX b5) (api_Side.mk aY b6)))) (a1 := d) (Sl.all gj) (Sl.all gm) (Sl.all gp) (Sl.all gr) (Sl.all gt) gu) ?_
        rintro nF bM ⟨dN, dO, dP, dQ, dR, rfl, gw, lR, lS, lT, lU, lV⟩
        obtain ⟨cd, mZ, a3, bO⟩ := adoptE lP (fun k => 1) gw
        have gz : Sl Rep.u bM (frs cd) dN ah.Hist.Pos.Counts := Sl.adoptF lR (fun k hk => ⟨hk, z⟩) a3
        have gB : Sl Rep.u bM (frs cd) dO ah.Hist.Neg.Counts := Sl.adoptF lS (fun k hk => ⟨hk, z⟩) a3
        have gC : Sl rep_api_Pair bM (frs cd) dP I.Attrs := Sl.adoptF lT (fun k hk => ⟨hk, z⟩) a3
        have gE : Sl Rep.u bM (frs cd) dQ I.Hist.Pos.Counts := Sl.adoptF lU (fun k hk => ⟨hk, z⟩) a3
        have gG : Sl Rep.u bM (frs cd) dR I.Hist.Neg.Counts := Sl.adoptF lV (fun k hk => ⟨hk, z⟩) a3
        refine nl (At.dq (su_ bO z) (WD.y 7 z (by kernel_rfl) (fun _ _ _ => ym z) z (WD.y 8 z (by kernel_rfl) (fun _ _ _ => yx z z) z (WD.y 9 z (by kernel_rfl) (fun _ _ _ => yx z z) z (WD.y 10 z (by kernel_rfl) (fun _ _ _ => yx z z) z ?_)))))
        have gH := c0.st ax z
        have gI := gH.st bO z
        obtain ⟨og, ay, gJ⟩ := Blk.rlb 1001 rfl gI
        have gK := gg.st bO z
        have gL := gK.st ay z
        obtain ⟨lW, az, gM⟩ := Blk.rlb 1002 rfl gL
        have gO := gJ.st az z
        have gP := gz.f ay z
        have gQ := gP.f az z
        have gR := gB.f ay z
        have gU := gR.f az z
        have gV := gC.f ay z
        have gW := gV.f az z
        have gX := gE.f ay z
        have gY := gX.f az z
        have gZ := gG.f ay z
        have g0 := gZ.f az z
        refine WD.own (tr_ (su_ ay z) (su_ az z)) (WD.perm _ [12, 11, 10, 9, 8, 7, 6, 5, 4, 3, 2, 1, 0] (by kernel_rfl) ?_)
        exact bs (ah.Some, ah.Start, ah.Time, ah.Int_, ah.Re, ah.Im, ah.Hist.Scale, ah.Hist.Zero, ah.Hist.Pos.Offset, ah.Hist.Pos.Counts, ah.Hist.Neg.Offset, ah.Hist.Neg.Counts, I.Name, I.Attrs, I.Kind, I.Temp, I.Mono, I.Start, I.Time, I.Int_, I.Re, I.Im, I.Hist.Scale, I.Hist.Zero, I.Hist.Pos.Offset, I.Hist.Pos.Counts, I.Hist.Neg.Offset, I.Hist.Neg.Counts, I.Flags, lQ, lW, dG, lO, dN, dO, dP, dQ, dR) _ _ _ ⟨h, (tr_ (su_ G z) (tr_ (su_ ax z) (tr_ (su_ bO z) (tr_ (su_ ay z) (su_ az z))))), gO, gM, gQ, gU, gW, gY, g0, z⟩ (.cons z (.cons z (.cons z (.cons z (.cons z (.cons z (.cons z (.cons z (.cons z (.cons z (.cons z (.cons z .nil))))))))))))
      ·refine WL.alloc (O := ck) 20 [vs [], Value.slice none 0 0, vi 0, vi 0, vB false, vi 0, vi 0, vi 0, vu 0, vu 0, vi 0, vu 0, vi 0, Value.slice none 0 0, vi 0, Value.slice none 0 0, vi 0] ty37 z z ?_
       intro dS dT nG J c1
       refine nl (At.dq (su_ J z) ?_)
       refine WD.heavy2 6 11 z z (by kernel_rfl) ?_ ?_
       ·have g1 := a8.f j z
        have g2 := g1.f J z
        have g3 := a9.f j z
        have g4 := g3.f J z
        have g5 := bH.i J z z
        have g6 := bI.i J z z
        have g7 := bJ.i J z z
        obtain ⟨⟨ai, K, lX⟩, g8, h⟩ := bnd h
        refine WL.call (vals := [ag [vB aO, vi aP, vi aQ, vi aR, vu aS, vu aT, vi aU, vu aW, vi aX, b7, vi aY, b8], ag [vs d.Name, bT, vi d.Kind, vi d.Temp, vB d.Mono, vi d.Start, vi d.Time, vi d.Int_, vu d.Re, vu d.Im, vi d.Hist.Scale, vu d.Hist.Zero, vi d.Hist.Pos.Offset, bU, vi d.Hist.Neg.Offset, bW, vi d.Flags], vi a1]) kok33 z z (c_todelta_Next (A := fun _ => True) (a0 := (api_State.mk aO aP aQ aR aS aT (api_Hist.mk aU aW (api_Side.mk aX b5) (api_Side.mk aY b6)))) (a1 := d) (Sl.all g2) (Sl.all g4) (Sl.all g5) (Sl.all g6) (Sl.all g7) g8) ?_
        rintro nH bP ⟨dU, dV, dW, dX, dY, rfl, g9, lY, lZ, l0, l1, l2⟩
        obtain ⟨bY, m0, a4, ce⟩ := adoptE dT (fun k => 1) g9
        have ha : Sl Rep.u bP (frs bY) dU ai.Hist.Pos.Counts := Sl.adoptF lY (fun k hk => ⟨hk, z⟩) a4
        have hc : Sl Rep.u bP (frs bY) dV ai.Hist.Neg.Counts := Sl.adoptF lZ (fun k hk => ⟨hk, z⟩) a4
        have hd : Sl rep_api_Pair bP (frs bY) dW K.Attrs := Sl.adoptF l0 (fun k hk => ⟨hk, z⟩) a4
        have he : Sl Rep.u bP (frs bY) dX K.Hist.Pos.Counts := Sl.adoptF l1 (fun k hk => ⟨hk, z⟩) a4
        have hf : Sl Rep.u bP (frs bY) dY K.Hist.Neg.Counts := Sl.adoptF l2 (fun k hk => ⟨hk, z⟩) a4
        refine nl (At.dq (su_ ce z) (WD.y 7 z (by kernel_rfl) (fun _ _ _ => ym z) z (WD.y 8 z (by kernel_rfl) (fun _ _ _ => yx z z) z (WD.y 9 z (by kernel_rfl) (fun _ _ _ => yx z z) z (WD.y 10 z (by kernel_rfl) (fun _ _ _ => yx z z) z (WD.heavy 11 z (by kernel_rfl) (WL.alloc (O := bY) 21 [vB false, vi 0, vi 0, vi 0, vu 0, vu 0, vi 0, vu 0, vi 0, Value.slice none 0 0, vi 0, Value.slice none 0 0] ty32 z z ?_)))))))
        intro l3 oh nI aA hg
        refine nl (At.dq (su_ aA z) ?_)
        obtain ⟨oi, aC, hh⟩ := Blk.rlb 1001 rfl hg
        have hi := c1.st ce z
        have hj := hi.st aA z
        have hl := hj.st aC z
        obtain ⟨l4, aD, hm⟩ := Blk.rlb 1002 rfl hl
        have hn := hh.st aD z
        have ho := ha.f aA z
        have hp := ho.f aC z
        have hq := hp.f aD z
        have hr := hc.f aA z
        have hs := hr.f aC z
        have ht := hs.f aD z
        have hu := hd.f aA z
        have hv := hu.f aC z
        have hw := hv.f aD z
        have hx := he.f aA z
        have hy := hx.f aC z
        have hz := hy.f aD z
        have hA := hf.f aA z
        have hC := hA.f aC z
        have hD := hC.f aD z
        refine WD.own (tr_ (su_ aC z) (su_ aD z)) (WD.perm _ [12, 11, 10, 9, 8, 7, 6, 5, 4, 3, 2, 1, 0] (by kernel_rfl) ?_)
        exact bs (ai.Some, ai.Start, ai.Time, ai.Int_, ai.Re, ai.Im, ai.Hist.Scale, ai.Hist.Zero, ai.Hist.Pos.Offset, ai.Hist.Pos.Counts, ai.Hist.Neg.Offset, ai.Hist.Neg.Counts, K.Name, K.Attrs, K.Kind, K.Temp, K.Mono, K.Start, K.Time, K.Int_, K.Re, K.Im, K.Hist.Scale, K.Hist.Zero, K.Hist.Pos.Offset, K.Hist.Pos.Counts, K.Hist.Neg.Offset, K.Hist.Neg.Counts, K.Flags, lX, l4, l3, dS, dU, dV, dW, dX, dY) _ _ _ ⟨h, (tr_ (su_ J z) (tr_ (su_ ce z) (tr_ (su_ aA z) (tr_ (su_ aC z) (su_ aD z))))), hn, hm, hq, ht, hw, hz, hD, z⟩ (.cons z (.cons z (.cons z (.cons z (.cons z (.cons z (.cons z (.cons z (.cons z (.cons z (.cons z (.cons z .nil))))))))))))
       ·refine WL.alloc (O := dT) 22 [vB false, vi 0, vi 0, vi 0, vu 0, vu 0, vi 0, vu 0, vi 0, Value.slice none 0 0, vi 0, Value.slice none 0 0] ty32 z z ?_
        intro l5 l6 nJ aE hE
        refine nl (At.dq (su_ aE z) (WD.heavy 6 z (by kernel_rfl) ?_))
        have hF := a8.f j z
        have hG := hF.f J z
        have hH := hG.f aE z
        have hI := a9.f j z
        have hJ := hI.f J z
        have hK := hJ.f aE z
        have hL := bH.i J z z
        have hM := hL.i aE z z
        have hN := bI.i J z z
        have hO := hN.i aE z z
        have hP := bJ.i J z z
        have hQ := hP.i aE z z
        obtain ⟨⟨aj, L, l7⟩, hR, h⟩ := bnd h
        refine WL.call (vals := [ag [vB aO, vi aP, vi aQ, vi aR, vu aS, vu aT, vi aU, vu aW, vi aX, b7, vi aY, b8], ag [vs d.Name, bT, vi d.Kind, vi d.Temp, vB d.Mono, vi d.Start, vi d.Time, vi d.Int_, vu d.Re, vu d.Im, vi d.Hist.Scale, vu d.Hist.Zero, vi d.Hist.Pos.Offset, bU, vi d.Hist.Neg.Offset, bW, vi d.Flags], vi a1]) kok33 z z (c_todelta_Next (A := fun _ => True) (a0 := (api_State.mk aO aP aQ aR aS aT (api_Hist.mk aU aW (api_Side.mk aX b5) (api_Side.mk aY b6)))) (a1 := d) (Sl.all hH) (Sl.all hK) (Sl.all hM) (Sl.all hO) (Sl.all hQ) hR) ?_
        rintro nK bQ ⟨dZ, d0, d1, d2, d3, rfl, hS, l8, l9, ma, mb, mc⟩
        obtain ⟨cf, m1, a5, bR⟩ := adoptE l6 (fun k => 1) hS
        have hT : Sl Rep.u bQ (frs cf) dZ aj.Hist.Pos.Counts := Sl.adoptF l8 (fun k hk => ⟨hk, z⟩) a5
        have hU : Sl Rep.u bQ (frs cf) d0 aj.Hist.Neg.Counts := Sl.adoptF l9 (fun k hk => ⟨hk, z⟩) a5
        have hV : Sl rep_api_Pair bQ (frs cf) d1 L.Attrs := Sl.adoptF ma (fun k hk => ⟨hk, z⟩) a5
        have hW : Sl Rep.u bQ (frs cf) d2 L.Hist.Pos.Counts := Sl.adoptF mb (fun k hk => ⟨hk, z⟩) a5
        have hX : Sl Rep.u bQ (frs cf) d3 L.Hist.Neg.Counts := Sl.adoptF mc (fun k hk => ⟨hk, z⟩) a5
        refine nl (At.dq (su_ bR z) (WD.y 7 z (by kernel_rfl) (fun _ _ _ => ym z) z (WD.y 8 z (by kernel_rfl) (fun _ _ _ => yx z z) z (WD.y 9 z (by kernel_rfl) (fun _ _ _ => yx z z) z (WD.y 10 z (by kernel_rfl) (fun _ _ _ => yx z z) z ?_)))))
        have hY := hE.st bR z
        obtain ⟨oj, aF, hZ⟩ := Blk.rlb 1001 rfl hY
        have h0 := c1.st aE z
        have h1 := h0.st bR z
        have h2 := h1.st aF z
        obtain ⟨md, aG, h3⟩ := Blk.rlb 1002 rfl h2
        have h4 := hZ.st aG z
        have h5 := hT.f aF z
        have h6 := h5.f aG z
        have h7 := hU.f aF z
        have h8 := h7.f aG z
        have h9 := hV.f aF z
        have ia := h9.f aG z
        have ib := hW.f aF z
        have ic := ib.f aG z
        have ie := hX.f aF z
        have ig := ie.f aG z
        refine WD.own (tr_ (su_ aF z) (su_ aG z)) (WD.perm _ [12, 11, 10, 9, 8, 7, 6, 5, 4, 3, 2, 1, 0] (by kernel_rfl) ?_)
        exact bs (aj.Some, aj.Start, aj.Time, aj.Int_, aj.Re, aj.Im, aj.Hist.Scale, aj.Hist.Zero, aj.Hist.Pos.Offset, aj.Hist.Pos.Counts, aj.Hist.Neg.Offset, aj.Hist.Neg.Counts, L.Name, L.Attrs, L.Kind, L.Temp, L.Mono, L.Start, L.Time, L.Int_, L.Re, L.Im, L.Hist.Scale, L.Hist.Zero, L.Hist.Pos.Offset, L.Hist.Pos.Counts, L.Hist.Neg.Offset, L.Hist.Neg.Counts, L.Flags, l7, md, l5, dS, dZ, d0, d1, d2, d3) _ _ _ ⟨h, (tr_ (su_ J z) (tr_ (su_ aE z) (tr_ (su_ bR z) (tr_ (su_ aF z) (su_ aG z))))), h4, h3, h6, h8, ia, ic, ig, z⟩ (.cons z (.cons z (.cons z (.cons z (.cons z (.cons z (.cons z (.cons z (.cons z (.cons z (.cons z (.cons z .nil))))))))))))
     ·rintro ⟨bw, bx, bz, bA, bB, bC, bD, bE, bF, me, bG, mf, a7, mg, aK, aH, al, ak, ae, ac, aa, S, M, q, o, mh, p, mi, P, mj, ml, mm, mn, mo, mp, mq, mr, ms⟩ _ nL ⟨h, Q, c2, c3, cs, ct, c4, c5, c6, rfl⟩
      replace h := h.trans (congrArg some eB.symm)
      unfold law15_play_k2 at h
      try dsimp only at h Q c2 c3 cs ct c4 c5 c6
      refine (show WD _ _ _ _ _ _ _ _ [(0, v0), (1, vi a1), (6, pt bt 0), (7, cE), (8, cF), (9, pt aN 0), (10, vi cj), (11, pt mm 0), (12, pt mn 0), (29, ag [vB bw, vi bx, vi bz, vi bA, vu bB, vu bC, vi bD, vu bE, vi bF, mo, vi bG, mp]), (30, ag [vs a7, mq, vi aK, vi aH, vB al, vi ak, vi ae, vi ac, vu aa, vu S, vi M, vu q, vi o, mr, vi p, ms, vi P]), (31, vi mj)] _ _ from ?_)
      refine WD.heavy 13 z (by kernel_rfl) ?_
      have ih := h
      obtain ⟨bZ, b0, b1, rfl⟩ := cs.shape
      have h := ih
      have ii := h
      obtain ⟨b2, b3, b4, rfl⟩ := ct.shape
      have h := ii
      refine WL.store (v := ag [vB bw, vi bx, vi bz, vi bA, vu bB, vu bC, vi bD, vu bE, vi bF, (Value.slice bZ b0 b1), vi bG, (Value.slice b2 b3 b4)]) (cells' := [vB bw, vi bx, vi bz, vi bA, vu bB, vu bC, vi bD, vu bE, vi bF, (Value.slice bZ b0 b1), vi bG, (Value.slice b2 b3 b4)]) ty32 z z c2 z (le_ z) z z ?_
      intro nN l ij
      refine nl (At.dq (su_ l z) (WD.heavy 14 z (by kernel_rfl) ?_))
      have c7 := c4.f l z
      have ik := h
      obtain ⟨ba, bb, bc, rfl⟩ := c7.shape
      have h := ik
      have c8 := c5.f l z
      have il := h
      obtain ⟨r, t, C, rfl⟩ := c8.shape
      have h := il
      have c9 := c6.f l z
      have im := h
      obtain ⟨D, E, F, rfl⟩ := c9.shape
      have h := im
      have io := c3.st l z
      refine WL.store (v := ag [vs a7, (Value.slice ba bb bc), vi aK, vi aH, vB al, vi ak, vi ae, vi ac, vu aa, vu S, vi M, vu q, vi o, (Value.slice r t C), vi p, (Value.slice D E F), vi P]) (cells' := [vs a7, (Value.slice ba bb bc), vi aK, vi aH, vB al, vi ak, vi ae, vi ac, vu aa, vu S, vi M, vu q, vi o, (Value.slice r t C), vi p, (Value.slice D E F), vi P]) ty37 z z io z (le_ z) z z ?_
      intro nO m ip
      refine nl (At.dq (su_ m z) (WD.y 15 z (by kernel_rfl) (fun _ _ _ => ya z) z (WD.done_ (by kernel_rfl) (th (sq (rg (wY (ym z) z (wY (Y.eql_i z z) z (nl ?_)))))))))
      refine th ?_
      rcases cnd h with ⟨cu, h⟩ | ⟨cu, h⟩
      ·refine WC.condT' z cu (sq (rg (wY (ym z) z (wY (ym z) z (wY (ym z) z ?_)))))
       obtain ⟨a, iq, h⟩ := bnd h
       have ir := cU.i Q z z
       have it := ir.i l z z
       have iu := it.i m z z
       obtain ⟨ol, m8, m9, nP, iv, iw, ix, cv, d4, iy⟩ := Sl.at2 iu iq
       obtain ⟨_, _, rfl, rfl, ⟨_, _, rfl, ⟨mt, rfl, da⟩, ⟨_, _, rfl, rfl, ⟨_, _, rfl, rfl, ⟨_, _, rfl, rfl, ⟨_, _, rfl, rfl, ⟨_, _, rfl, rfl, ⟨_, _, rfl, rfl, ⟨_, _, rfl, rfl, ⟨_, _, rfl, rfl, ⟨_, _, rfl, ⟨_, _, rfl, rfl, ⟨_, _, rfl, rfl, ⟨_, _, rfl, ⟨_, _, rfl, rfl, ⟨mu, rfl, db⟩⟩, ⟨_, _, rfl, rfl, ⟨mv, rfl, dc⟩⟩⟩⟩⟩, rfl⟩⟩⟩⟩⟩⟩⟩⟩⟩⟩⟩ := d4
       replace cv : CellsAt _ _ _ [vs a.Name, mt, vi a.Kind, vi a.Temp, vB a.Mono, vi a.Start, vi a.Time, vi a.Int_, vu a.Re, vu a.Im, vi a.Hist.Scale, vu a.Hist.Zero, vi a.Hist.Pos.Offset, mu, vi a.Hist.Neg.Offset, mv, vi a.Flags] := cv
       have d5 := CAt.imm cv iy
       refine wY (Y.indexAddr ty22 ty37 z iv z iw ix) z (wY (yL ty37 z z d5.at_ z) z ?_)
       have iz := h
       obtain ⟨cg, ch, ci, rfl⟩ := da.shape
       have h := iz
       have iA := h
       obtain ⟨T, U, V, rfl⟩ := db.shape
       have h := iA
       have iB := h
       obtain ⟨W, X, Z, rfl⟩ := dc.shape
       have h := iB
       refine WL.buildSlice (O := ml) (R := rep_api_Point) (vals := [(0, ag [vs a.Name, (Value.slice cg ch ci), vi a.Kind, vi a.Temp, vB a.Mono, vi a.Start, vi a.Time, vi a.Int_, vu a.Re, vu a.Im, vi a.Hist.Scale, vu a.Hist.Zero, vi a.Hist.Pos.Offset, (Value.slice T U V), vi a.Hist.Neg.Offset, (Value.slice W X Z), vi a.Flags])]) 23 [vs a.Name, (Value.slice cg ch ci), vi a.Kind, vi a.Temp, vB a.Mono, vi a.Start, vi a.Time, vi a.Int_, vu a.Re, vu a.Im, vi a.Hist.Scale, vu a.Hist.Zero, vi a.Hist.Pos.Offset, (Value.slice T U V), vi a.Hist.Neg.Offset, (Value.slice W X Z), vi a.Flags] (xs := [a]) (by decide) ty22 ty37 (by decide) (by decide) (fe_ z) (by kernel_rfl) z ⟨[vs a.Name, (Value.slice cg ch ci), vi a.Kind, vi a.Temp, vB a.Mono, vi a.Start, vi a.Time, vi a.Int_, vu a.Re, vu a.Im, vi a.Hist.Scale, vu a.Hist.Zero, vi a.Hist.Pos.Offset, (Value.slice T U V), vi a.Hist.Neg.Offset, (Value.slice W X Z), vi a.Flags], [], z, ⟨[vs a.Name], [(Value.slice cg ch ci), vi a.Kind, vi a.Temp, vB a.Mono, vi a.Start, vi a.Time, vi a.Int_, vu a.Re, vu a.Im, vi a.Hist.Scale, vu a.Hist.Zero, vi a.Hist.Pos.Offset, (Value.slice T U V), vi a.Hist.Neg.Offset, (Value.slice W X Z), vi a.Flags], z, z, ⟨[(Value.slice cg ch ci)], [vi a.Kind, vi a.Temp, vB a.Mono, vi a.Start, vi a.Time, vi a.Int_, vu a.Re, vu a.Im, vi a.Hist.Scale, vu a.Hist.Zero, vi a.Hist.Pos.Offset, (Value.slice T U V), vi a.Hist.Neg.Offset, (Value.slice W X Z), vi a.Flags], z, ⟨_, z, da⟩, ⟨[vi a.Kind], [vi a.Temp, vB a.Mono, vi a.Start, vi a.Time, vi a.Int_, vu a.Re, vu a.Im, vi a.Hist.Scale, vu a.Hist.Zero, vi a.Hist.Pos.Offset, (Value.slice T U V), vi a.Hist.Neg.Offset, (Value.slice W X Z), vi a.Flags], z, z, ⟨[vi a.Temp], [vB a.Mono, vi a.Start, vi a.Time, vi a.Int_, vu a.Re, vu a.Im, vi a.Hist.Scale, vu a.Hist.Zero, vi a.Hist.Pos.Offset, (Value.slice T U V), vi a.Hist.Neg.Offset, (Value.slice W X Z), vi a.Flags], z, z, ⟨[vB a.Mono], [vi a.Start, vi a.Time, vi a.Int_, vu a.Re, vu a.Im, vi a.Hist.Scale, vu a.Hist.Zero, vi a.Hist.Pos.Offset, (Value.slice T U V), vi a.Hist.Neg.Offset, (Value.slice W X Z), vi a.Flags], z, z, ⟨[vi a.Start], [vi a.Time, vi a.Int_, vu a.Re, vu a.Im, vi a.Hist.Scale, vu a.Hist.Zero, vi a.Hist.Pos.Offset, (Value.slice T U V), vi a.Hist.Neg.Offset, (Value.slice W X Z), vi a.Flags], z, z, ⟨[vi a.Time], [vi a.Int_, vu a.Re, vu a.Im, vi a.Hist.Scale, vu a.Hist.Zero, vi a.Hist.Pos.Offset, (Value.slice T U V), vi a.Hist.Neg.Offset, (Value.slice W X Z), vi a.Flags], z, z, ⟨[vi a.Int_], [vu a.Re, vu a.Im, vi a.Hist.Scale, vu a.Hist.Zero, vi a.Hist.Pos.Offset, (Value.slice T U V), vi a.Hist.Neg.Offset, (Value.slice W X Z), vi a.Flags], z, z, ⟨[vu a.Re], [vu a.Im, vi a.Hist.Scale, vu a.Hist.Zero, vi a.Hist.Pos.Offset, (Value.slice T U V), vi a.Hist.Neg.Offset, (Value.slice W X Z), vi a.Flags], z, z, ⟨[vu a.Im], [vi a.Hist.Scale, vu a.Hist.Zero, vi a.Hist.Pos.Offset, (Value.slice T U V), vi a.Hist.Neg.Offset, (Value.slice W X Z), vi a.Flags], z, z, ⟨[vi a.Hist.Scale, vu a.Hist.Zero, vi a.Hist.Pos.Offset, (Value.slice T U V), vi a.Hist.Neg.Offset, (Value.slice W X Z)], [vi a.Flags], z, ⟨[vi a.Hist.Scale], [vu a.Hist.Zero, vi a.Hist.Pos.Offset, (Value.slice T U V), vi a.Hist.Neg.Offset, (Value.slice W X Z)], z, z, ⟨[vu a.Hist.Zero], [vi a.Hist.Pos.Offset, (Value.slice T U V), vi a.Hist.Neg.Offset, (Value.slice W X Z)], z, z, ⟨[vi a.Hist.Pos.Offset, (Value.slice T U V)], [vi a.Hist.Neg.Offset, (Value.slice W X Z)], z, ⟨[vi a.Hist.Pos.Offset], [(Value.slice T U V)], z, z, ⟨_, z, db⟩⟩, ⟨[vi a.Hist.Neg.Offset], [(Value.slice W X Z)], z, z, ⟨_, z, dc⟩⟩⟩⟩⟩, z⟩⟩⟩⟩⟩⟩⟩⟩⟩⟩⟩, z⟩ z ?_
       intro om oo nQ ab iC
       obtain ⟨iD, d6, h⟩ := bnd h
       have iE := co.st j z z z
       have iF := iE.st Q z z z
       have iG := iF.st l z z z
       have iH := iG.st m z z z
       have iI := iH.st ab z z z
       refine WL.append (by decide) ty22 ty37 z (by decide) z z iI iC.src d6 z ?_
       intro mw mx nR ad iJ
       refine wY (ya z) z (nl (th (sq (rg (wY (ym z) z ?_)))))
       have iK := ip.st ab z
       have iL := iK.st ad z
       refine wY (yL ty37 z z (iL.cells 0 [vs a7, (Value.slice ba bb bc), vi aK, vi aH, vB al, vi ak, vi ae, vi ac, vu aa, vu S, vi M, vu q, vi o, (Value.slice r t C), vi p, (Value.slice D E F), vi P] z) z) z ?_
       have iM := c7.f m z
       have iN := iM.f ab z
       have iO := iN.f ad z
       have iP := c8.f m z
       have iQ := iP.f ab z
       have iR := iQ.f ad z
       have iS := c9.f m z
       have iT := iS.f ab z
       have iU := iT.f ad z
       refine WL.buildSlice (O := mx) (R := rep_api_Point) (vals := [(0, ag [vs a7, (Value.slice ba bb bc), vi aK, vi aH, vB al, vi ak, vi ae, vi ac, vu aa, vu S, vi M, vu q, vi o, (Value.slice r t C), vi p, (Value.slice D E F), vi P])]) 24 [vs a7, (Value.slice ba bb bc), vi aK, vi aH, vB al, vi ak, vi ae, vi ac, vu aa, vu S, vi M, vu q, vi o, (Value.slice r t C), vi p, (Value.slice D E F), vi P] (xs := [(api_Point.mk a7 mg aK aH al ak ae ac aa S (api_Hist.mk M q (api_Side.mk o mh) (api_Side.mk p mi)) P)]) (by decide) ty22 ty37 (by decide) (by decide) (fe_ z) (by kernel_rfl) z ⟨[vs a7, (Value.slice ba bb bc), vi aK, vi aH, vB al, vi ak, vi ae, vi ac, vu aa, vu S, vi M, vu q, vi o, (Value.slice r t C), vi p, (Value.slice D E F), vi P], [], z, ⟨[vs a7], [(Value.slice ba bb bc), vi aK, vi aH, vB al, vi ak, vi ae, vi ac, vu aa, vu S, vi M, vu q, vi o, (Value.slice r t C), vi p, (Value.slice D E F), vi P], z, z, ⟨[(Value.slice ba bb bc)], [vi aK, vi aH, vB al, vi ak, vi ae, vi ac, vu aa, vu S, vi M, vu q, vi o, (Value.slice r t C), vi p, (Value.slice D E F), vi P], z, ⟨_, z, (Sl.mono iO frs_imm)⟩, ⟨[vi aK], [vi aH, vB al, vi ak, vi ae, vi ac, vu aa, vu S, vi M, vu q, vi o, (Value.slice r t C), vi p, (Value.slice D E F), vi P], z, z, ⟨[vi aH], [vB al, vi ak, vi ae, vi ac, vu aa, vu S, vi M, vu q, vi o, (Value.slice r t C), vi p, (Value.slice D E F), vi P], z, z, ⟨[vB al], [vi ak, vi ae, vi ac, vu aa, vu S, vi M, vu q, vi o, (Value.slice r t C), vi p, (Value.slice D E F), vi P], z, z, ⟨[vi ak], [vi ae, vi ac, vu aa, vu S, vi M, vu q, vi o, (Value.slice r t C), vi p, (Value.slice D E F), vi P], z, z, ⟨[vi ae], [vi ac, vu aa, vu S, vi M, vu q, vi o, (Value.slice r t C), vi p, (Value.slice D E F), vi P], z, z, ⟨[vi ac], [vu aa, vu S, vi M, vu q, vi o, (Value.slice r t C), vi p, (Value.slice D E F), vi P], z, z, ⟨[vu aa], [vu S, vi M, vu q, vi o, (Value.slice r t C), vi p, (Value.slice D E F), vi P], z, z, ⟨[vu S], [vi M, vu q, vi o, (Value.slice r t C), vi p, (Value.slice D E F), vi P], z, z, ⟨[vi M, vu q, vi o, (Value.slice r t C), vi p, (Value.slice D E F)], [vi P], z, ⟨[vi M], [vu q, vi o, (Value.slice r t C), vi p, (Value.slice D E F)], z, z, ⟨[vu q], [vi o, (Value.slice r t C), vi p, (Value.slice D E F)], z, z, ⟨[vi o, (Value.slice r t C)], [vi p, (Value.slice D E F)], z, ⟨[vi o], [(Value.slice r t C)], z, z, ⟨_, z, (Sl.mono iR frs_imm)⟩⟩, ⟨[vi p], [(Value.slice D E F)], z, z, ⟨_, z, (Sl.mono iU frs_imm)⟩⟩⟩⟩⟩, z⟩⟩⟩⟩⟩⟩⟩⟩⟩⟩⟩, z⟩ z ?_
       intro op oq nS aL iV
       obtain ⟨iW, d7, h⟩ := bnd h
       have iX := cp.st j z z z
       have iY := iX.st Q z z z
       have iZ := iY.st l z z z
       have i0 := iZ.st m z z z
       have i1 := i0.st ab z z z
       have i2 := i1.st ad z z z
       have i3 := i2.st aL z z z
       refine WL.append (by decide) ty22 ty37 z (by decide) z z i3 iV.src d7 z ?_
       intro my os nT a6 i4
       refine wY (ya z) z (nl (th (rg ?_)))
       have i5 := ij.st m z
       have i6 := i5.st ab z
       have i7 := i6.st ad z
       have i8 := i7.st aL z
       have i9 := i8.st a6 z
       refine wY (yL ty32 z z (i9.cells 0 [vB bw, vi bx, vi bz, vi bA, vu bB, vu bC, vi bD, vu bE, vi bF, (Value.slice bZ b0 b1), vi bG, (Value.slice b2 b3 b4)] z) z) z ?_
       have ja := ca.st j z
       have jb := ja.st Q z
       have jc := jb.st l z
       have jd := jc.st m z
       have je := jd.st ab z
       have jf := je.st ad z
       have jg := jf.st aL z
       have jh := jg.st a6 z
       refine WL.store (v := ag [vB bw, vi bx, vi bz, vi bA, vu bB, vu bC, vi bD, vu bE, vi bF, (Value.slice bZ b0 b1), vi bG, (Value.slice b2 b3 b4)]) (cells' := [vB bw, vi bx, vi bz, vi bA, vu bB, vu bC, vi bD, vu bE, vi bF, (Value.slice bZ b0 b1), vi bG, (Value.slice b2 b3 b4)]) ty32 z z jh z (le_ z) z z ?_
       intro nU bd ji
       refine nl (At.inBlock ?_)
       have jj := iJ.st aL z z z
       have jk := jj.st a6 z z z
       have jl := jk.st bd z z z
       obtain ⟨ot, bf, jm⟩ := OwnSl.rlb 1005 rfl jl
       have jn := i4.st bd z z z
       have jo := jn.st bf z z z
       obtain ⟨mz, bg, jp⟩ := OwnSl.rlb 1006 rfl jo
       have jq := jm.st bg z z z
       have jr := cs.f l z
       have js := jr.f m z
       have jt := js.f ab z
       have ju := jt.f ad z
       have jv := ju.f aL z
       have jw := jv.f a6 z
       have jx := jw.f bd z
       have jy := jx.f bf z
       have jz := jy.f bg z
       have jA := ct.f l z
       have jB := jA.f m z
       have jC := jB.f ab z
       have jD := jC.f ad z
       have jE := jD.f aL z
       have jF := jE.f a6 z
       have jG := jF.f bd z
       have jH := jG.f bf z
       have jI := jH.f bg z
       have jJ := ji.st bf z
       have jK := jJ.st bg z
       exact At.join (σ := (List api_Point × List api_Point × Bool × Int × Int × Int × UInt64 × UInt64 × Int × UInt64 × Int × List UInt64 × Int × List UInt64 × Own × Value × Value × Value × Value)) (iD, iW, bw, bx, bz, bA, bB, bC, bD, bE, bF, me, bG, mf, mz, mw, my, (Value.slice bZ b0 b1), (Value.slice b2 b3 b4)) ⟨some1 h, (tr_ (su_ j z) (tr_ (su_ Q z) (tr_ (su_ l z) (tr_ (su_ m z) (tr_ (su_ ab z) (tr_ (su_ ad z) (tr_ (su_ aL z) (tr_ (su_ a6 z) (tr_ (su_ bd z) (tr_ (su_ bf z) (su_ bg z))))))))))), jq, jp, jz, jI, jK⟩ (.cons z (.cons z (.cons z (.cons z (.cons z (.cons z (.cons z .nil)))))))
      ·refine WC.condF' z cu (sk (At.inBlock ?_))
       have jL := co.st j z z z
       have jM := jL.st Q z z z
       have jN := jM.st l z z z
       have jO := jN.st m z z z
       obtain ⟨ou, bh, jP⟩ := OwnSl.rlb 1005 rfl jO
       have jQ := cp.st j z z z
       have jR := jQ.st Q z z z
       have jS := jR.st l z z z
       have jT := jS.st m z z z
       have jU := jT.st bh z z z
       obtain ⟨mA, bi, jV⟩ := OwnSl.rlb 1006 rfl jU
       have jW := jP.st bi z z z
       have jX := a8.f j z
       have jY := jX.f Q z
       have jZ := jY.f l z
       have j0 := jZ.f m z
       have j1 := j0.f bh z
       have j2 := j1.f bi z
       have j3 := a9.f j z
       have j4 := j3.f Q z
       have j5 := j4.f l z
       have j6 := j5.f m z
       have j7 := j6.f bh z
       have j8 := j7.f bi z
       have j9 := ca.st j z
       have ka := j9.st Q z
       have kb := ka.st l z
       have kc := kb.st m z
       have kd := kc.st bh z
       have ke := kd.st bi z
       exact At.join (σ := (List api_Point × List api_Point × Bool × Int × Int × Int × UInt64 × UInt64 × Int × UInt64 × Int × List UInt64 × Int × List UInt64 × Own × Value × Value × Value × Value)) (cJ, cn, aO, aP, aQ, aR, aS, aT, aU, aW, aX, b5, aY, b6, mA, cE, cF, b7, b8) ⟨some1 h, (tr_ (su_ j z) (tr_ (su_ Q z) (tr_ (su_ l z) (tr_ (su_ m z) (tr_ (su_ bh z) (su_ bi z)))))), jW, jV, j2, j8, ke⟩ (.cons z (.cons z (.cons z (.cons z (.cons z (.cons z (.cons z .nil)))))))
    ·rintro ⟨kf, d8, mB, mC, mD, mE, mF, mG, mH, mI, mJ, mK, mL, mM, ov, d9, ea, mN, mO⟩ nV ⟨rfl, cG, dd, de, df, dg, dh⟩
     replace h := ep
     try dsimp only at h cG dd de df dg dh
     refine (show At _ _ _ [(0, v0), (1, vi a1), (6, pt bt 0), (7, d9), (8, ea), (9, pt aN 0), (10, vi cj)] _ from ?_)
     refine th (rg (wY (ym z) z (wY (Y.add_i z z) z ?_)))
     obtain ⟨mP, kg, h⟩ := lt1 h
     refine WL.yE (ya z) (congrArg vi kg.symm) z (nl ?_)
     obtain ⟨ow, bj, kh⟩ := OwnSl.rlb 1009 rfl dd
     have ki := de.st bj z z z
     obtain ⟨mQ, bk, kj⟩ := OwnSl.rlb 1010 rfl ki
     have kk := kh.st bk z z z
     have km := df.f bj z
     have kn := km.f bk z
     have ko := dg.f bj z
     have kp := ko.f bk z
     have kq := dh.st bj z
     have kr := kq.st bk z
     exact At.round (kf, d8, mB, mC, mD, mE, mF, mG, mH, mI, mJ, mK, mL, mM, mP, mQ, d9, ea, mN, mO) lo (Nat.lt_succ_self _) ⟨next1 h cS, (tr_ (su_ b9 z) (tr_ (su_ cG z) (tr_ (su_ bj z) (su_ bk z)))), kk, kj, kn, kp, kr⟩ (.cons z (.cons z (.cons z (.cons z (.cons z (.cons z (.cons z .nil)))))))
   ·refine WC.condF' z cq (WC.exit (At.thenX (At.loopX ?_)))
    obtain ⟨ox, bl, ks⟩ := OwnSl.rlb 1017 rfl co
    have kt := cp.st bl z z z
    obtain ⟨mR, bm, ku⟩ := OwnSl.rlb 1018 rfl kt
    have kv := ks.st bm z z z
    have kw := a8.f bl z
    have kx := kw.f bm z
    have ky := a9.f bl z
    have kz := ky.f bm z
    have kA := ca.st bl z
    have kB := kA.st bm z
    exact At.hitB (σ := (List api_Point × List api_Point × Bool × Int × Int × Int × UInt64 × UInt64 × Int × UInt64 × Int × List UInt64 × Int × List UInt64 × Own × Value × Value × Value × Value)) (cJ, cn, aO, aP, aQ, aR, aS, aT, aU, aW, aX, b5, aY, b6, mR, cE, cF, b7, b8) ⟨brk1 h cS, (tr_ (su_ b9 z) (tr_ (su_ bl z) (su_ bm z))), kv, ku, kx, kz, kB⟩ (.cons z (.cons z (.cons z (.cons z .nil))))
  ·rintro ⟨mS, kC, na, nb, nc, nd, ne, nf, ng, nh, ni, nj, nk, mT, oy, lc, ld, nm, mU⟩ nW ⟨rfl, cH, eb, ec, ed, di, ee⟩
   replace h := flowK_go ek
   try dsimp only at h cH eb ec ed di ee
   refine (show At _ _ _ [(6, pt bt 0), (7, lc), (8, ld), (9, pt aN 0)] _ from ?_)
   refine At.inBlockHit ?_
   obtain ⟨oz, bn, kD⟩ := OwnSl.rlb 1035 rfl eb
   have kE := ec.st bn z z z
   obtain ⟨mV, bo, kF⟩ := OwnSl.rlb 1036 rfl kE
   have kG := kD.st bo z z z
   have kH := ed.f bn z
   have kI := kH.f bo z
   have kJ := di.f bn z
   have kK := kJ.f bo z
   have kL := ee.st bn z
   have kM := kL.st bo z
   exact At.join (σ := (List api_Point × List api_Point × Bool × Int × Int × Int × UInt64 × UInt64 × Int × UInt64 × Int × List UInt64 × Int × List UInt64 × Own × Value × Value × Value × Value)) (mS, kC, na, nb, nc, nd, ne, nf, ng, nh, ni, nj, nk, mT, mV, lc, ld, nm, mU) ⟨some1 h, (tr_ (su_ cH z) (tr_ (su_ bn z) (su_ bo z))), kG, kF, kI, kK, kM⟩ (.cons z (.cons z (.cons z (.cons z .nil))))
 ·rintro ⟨oA, nX, dj, dk, dl, dm, dn, dp, dr, ds, dt, oD, du, oE, nn, lf, lg, np, nq⟩ oB ⟨rfl, cw, ef, eg, eh, ei, ej⟩
  replace h := lm
  try dsimp only at h cw ef eg eh ei ej
  refine (show At _ _ _ [(6, pt bt 0), (7, lf), (8, lg), (9, pt aN 0)] _ from ?_)
  refine th (sq (WC.draw 5 nn fmix (by kernel_rfl) ?_))
  intro nY aM
  refine WS.y (ym z) z (WS.y (ym z) z ?_)
  have kN := ej.st aM z
  refine WS.y (yL ty32 z z (kN.cells 0 [vB dj, vi dk, vi dl, vi dm, vu dn, vu dp, vi dr, vu ds, vi dt, np, vi du, nq] z) z) z (WS.y (ya z) z (WS.y (ya z) z (WS.tail ?_)))
  have dw := eh.f aM z
  have kO := h
  obtain ⟨cx, cy, cz, rfl⟩ := dw.shape
  have h := kO
  have dx := ei.f aM z
  have kP := h
  obtain ⟨cA, cC, cD, rfl⟩ := dx.shape
  have h := kP
  have kQ := li.st cl z
  have kR := kQ.st cm z
  have kS := kR.st cw z
  have kT := kS.st aM z
  refine WL.store (v := ag [vB dj, vi dk, vi dl, vi dm, vu dn, vu dp, vi dr, vu ds, vi dt, (Value.slice cx cy cz), vi du, (Value.slice cA cC cD)]) (cells' := [vB dj, vi dk, vi dl, vi dm, vu dn, vu dp, vi dr, vu ds, vi dt, (Value.slice cx cy cz), vi du, (Value.slice cA cC cD)]) ty32 z z kT z (le_ z) z z ?_
  intro kU bp kV
  refine nl (th (rt ?_))
  obtain ⟨rfl, rfl, rfl⟩ := tup3 h
  have kW := ef.st aM z z z
  have kX := kW.st bp z z z
  obtain ⟨oC, bq, kY⟩ := OwnSl.give rfl kX
  have kZ := eg.st aM z z z
  have k0 := kZ.st bp z z z
  have k1 := k0.st bq z z z
  obtain ⟨mW, br, k2⟩ := OwnSl.give rfl k1
  have bS : Stp [11, 12, 13, 14, 15, 16, 17, 18, 19, 20, 21, 22, 24, 26, 1001, 1002, 1005, 1006, 1009, 1010, 1017, 1018, 1035, 1036] (Lg.O0 A) w mW kU := (tr_ (su_ cQ z) (tr_ (su_ cl z) (tr_ (su_ cm z) (tr_ (su_ cw z) (tr_ (su_ aM z) (tr_ (su_ bp z) (tr_ (su_ bq z) (su_ br z))))))))
  have k3 := kY.i br z z
  have k4 := dw.f bp z
  have k5 := k4.f bq z
  have k6 := k5.f br z
  have k7 := dx.f bp z
  have k8 := k7.f bq z
  have k9 := k8.f br z
  have la := kV.st bq z
  have lb := la.st br z
  exact At.res (.inl z) z (.tmp z (.tmp z (.cell z (lb.runAg 0 [vB dj, vi dk, vi dl, vi dm, vu dn, vu dp, vi dr, vu ds, vi dt, (Value.slice cx cy cz), vi du, (Value.slice cA cC cD)] ty32 z z z) .nil))) ⟨lf, lg, (Value.slice cx cy cz), (Value.slice cA cC cD), z, (se_ bS z z), (Sl.outI k3 bS low0 O0_A), (Sl.outI k2 bS low0 O0_A), (Sl.outF k6 bS low0), (Sl.outF k9 bS low0)⟩
theorem c_ref08_SameSide {A : Nat → Prop} {v0_1 : Value} {a0 : api_Side} {v1_1 : Value} {a1 : api_Side} {w : World} (hs0_1 : Sl Rep.u w A v0_1 a0.Counts) (hs1_1 : Sl Rep.u w A v1_1 a1.Counts) {r0 : Bool} (h : ref08_SameSide a0 a1 = some r0) : Rets Try.prog 56 [ag [vi a0.Offset, v0_1], ag [vi a1.Offset, v1_1]] w (fun v w' => v = vB r0 ∧ Ext w w') := by
 unfold ref08_SameSide at h
 refine Rets.enter Try.func56 z z ?_
 have m : Sl Rep.u w (imm (Lg.O0 A)) v0_1 a0.Counts := (Sl.start hs0_1)
 have X : Sl Rep.u w (imm (Lg.O0 A)) v1_1 a1.Counts := (Sl.start hs1_1)
 refine (show WC _ _ _ _ [(0, ag [vi a0.Offset, v0_1]), (1, ag [vi a1.Offset, v1_1])] _ from ?_)
 refine sq (rg ?_)
 have Z := h
 obtain ⟨aI, aJ, aK, rfl⟩ := m.shape
 have h := Z
 refine WL.box (O := (Lg.O0 A)) 11 [vi a0.Offset, (Value.slice aI aJ aK)] z z z ?_
 intro G aL a2 e aa
 have n := X.i e z z
 have ab := h
 obtain ⟨aM, aN, aO, rfl⟩ := n.shape
 have h := ab
 refine WL.box (O := aL) 12 [vi a1.Offset, (Value.slice aM aN aO)] z z z ?_
 intro H I l a o
 refine wY (ya z) z (nl (th (sq (sq (rg (wY (yf fo28_0 z) z ?_))))))
 have p := aa.st a z
 refine wY (yl ty3 z z (p.cell 0 _ z)) z (wY (yf fo28_0 z) z (wY (yl ty3 z z (o.cell 0 _ z)) z (wY (Y.neq_i z z) z (wY (ym z) z ?_))))
 refine WL.cut 8 (σ := Unit) (fun _ w' => l = w') (fun _ => [(2, pt G 0), (3, pt H 0), (19, vB ((!decide (a0.Offset = a1.Offset)) || (!decide ((a0.Counts.length : Int) = (a1.Counts.length : Int)))))]) ?_ ?_
 ·refine WL.part 11 z (fun q => ?_) (fun q => ?_)
  ·refine WL.gS z z z z (WL.gS z z z z (WL.gS z z z z (WL.gS z z z z (WL.gS z z z z (WL.gS z z z z (WL.gS z z z z (wY (Y.pick (b := true) z z) z (WL.ren (v' := vB ((!decide (a0.Offset = a1.Offset)) || (!decide ((a0.Counts.length : Int) = (a1.Counts.length : Int))))) 19 z (congrArg vB (orT q)) ?_))))))))
   exact nl (At.join () z (.cons z (.cons z (.cons z .nil))))
  ·refine ug z z (wY (yf fo28_1 z) z (ug z z (wY (yl ty26 z z (p.cell 1 _ z)) z (ug z z ?_))))
   have ac := m.i e z z
   have ad := ac.i a z z
   refine wY (Y.len ty26 z ad) z (ug z z (wY (yf fo28_1 z) z (ug z z (wY (yl ty26 z z (o.cell 1 _ z)) z (ug z z ?_)))))
   have ae := n.i a z z
   refine wY (Y.len ty26 z ae) z (ug z z (wY (Y.neq_i z z) z (wY (Y.pick (b := false) z z) z (WL.ren (v' := vB ((!decide (a0.Offset = a1.Offset)) || (!decide ((a0.Counts.length : Int) = (a1.Counts.length : Int))))) 19 z (congrArg vB (orF q)) ?_))))
   exact nl (At.join () z (.cons z (.cons z (.cons z .nil))))
 ·rintro _ _ rfl
  refine (show WL _ _ _ _ _ [(2, pt G 0), (3, pt H 0), (19, vB ((!decide (a0.Offset = a1.Offset)) || (!decide ((a0.Counts.length : Int) = (a1.Counts.length : Int)))))] _ from ?_)
  refine nl (th ?_)
  rcases cnd h with ⟨r, h⟩ | ⟨r, h⟩
  ·refine WC.condT' z r (sq (rg (wY (ya z) z (nl (th (rt (At.thenR ?_)))))))
   obtain rfl := some1 h
   have af : Stp [] (Lg.O0 A) w I l := (tr_ (su_ e z) (su_ a z))
   exact At.res (.inl z) z (.tmp z .nil) ⟨z, (se_ af z z)⟩
  ·refine WC.condF' z r (sk (th (sq (sq (rg (wY (ya z) z (nl (th (WC.block ?_)))))))))
   obtain ⟨V, h, K⟩ := flow1 h
   obtain ⟨W, h⟩ := loop_some h
   refine WC.joinB 0 (σ := Own) (fun x w' => V = .go () ∧ Stp [] I l x w') (fun x => []) ?_ ?_
   ·refine WC.loop (σ := (Int × Own)) (fun x k w' => loopN k (ref08_SameSide_lp1 a0 a1) x.1 = some V ∧ Stp [] I l x.2 w') (fun x => [(2, pt G 0), (3, pt H 0), (5, vi x.1)]) (0, I) W (.cons z (.cons z (.cons z .nil))) ⟨h, (sr_ _ _ _)⟩ ?_
    rintro ⟨aP, J⟩ W a3 ⟨h, d⟩
    obtain ⟨aQ, a6, rfl, h, t⟩ := rnd1 h
    unfold ref08_SameSide_lp1 at h
    try dsimp only at h d
    refine (show WC _ _ _ _ [(2, pt G 0), (3, pt H 0), (5, vi aP)] _ from ?_)
    refine sq (sq (rg (wY (ym z) z (wY (yf fo28_1 z) z ?_))))
    have L := p.st d z
    refine wY (yl ty26 z z (L.cell 1 _ z)) z ?_
    have ah := m.i e z z
    have ai := ah.i a z z
    have M := ai.i d z z
    refine wY (Y.len ty26 z M) z (wY (Y.lss_i z z) z (nl (th ?_)))
    rcases cnd h with ⟨C, h⟩ | ⟨C, h⟩
    ·refine WC.condT' z C (sk (th (sq (WC.block (sq (WC.draw 10 J fmix (by kernel_rfl) ?_))))))
     intro aj j
     refine WS.y (yf fo28_1 z) z ?_
     have ak := L.st j z
     refine WS.y (yl ty26 z z (ak.cell 1 _ z)) z (WS.y (ym z) z ?_)
     obtain ⟨aR, al, h⟩ := bnd h
     have am := M.i j z z
     obtain ⟨a7, aW, aX, a4, an, ao, ap, D, P, aq⟩ := Sl.at2 am al
     obtain rfl := P
     replace D : CellsAt _ _ _ [vu aR] := D
     have Q := CAt.imm D aq
     refine WS.y (Y.indexAddr ty26 ty25 z an z ao ap) z (WS.y (yl ty25 z z Q.at_) z (WS.y (yf fo28_1 z) z ?_))
     have ar := o.st d z
     have au := ar.st j z
     refine WS.y (yl ty26 z z (au.cell 1 _ z)) z (WS.y (ym z) z ?_)
     obtain ⟨aS, av, h⟩ := bnd h
     have aw := n.i a z z
     have ax := aw.i d z z
     have ay := ax.i j z z
     obtain ⟨a8, aY, aZ, a5, az, aA, aC, E, S, aD⟩ := Sl.at2 ay av
     obtain rfl := S
     replace E : CellsAt _ _ _ [vu aS] := E
     have T := CAt.imm E aD
     refine WS.y (Y.indexAddr ty26 ty25 z az z aA aC) z (WS.y (yl ty25 z z T.at_) z (WS.tail (wY (Y.neq_u z z) z (nl (th ?_)))))
     rcases cnd h with ⟨F, h⟩ | ⟨F, h⟩
     ·refine WC.condT' z F (sq (rg (wY (ya z) z (nl (th (rt (At.inBlockR (At.thenR (At.loopR ?_)))))))))
      have h := outr1 h t K
      refine At.joinBR (At.inBlockR (At.thenR ?_))
      obtain rfl := some1 h
      have aE : Stp [] (Lg.O0 A) w J aj := (tr_ (su_ e z) (tr_ (su_ a z) (tr_ (su_ d z) (su_ j z))))
      exact At.res (.inl z) z (.tmp z .nil) ⟨z, (se_ aE z z)⟩
     ·refine WC.condF' z F (sk (At.inBlock (th (rg (wY (ym z) z (wY (Y.add_i z z) z ?_))))))
      obtain ⟨aT, aF, h⟩ := lt1 h
      refine WL.yE (ya z) (congrArg vi aF.symm) z (nl ?_)
      exact At.round (aT, J) aQ (Nat.lt_succ_self _) ⟨next1 h t, (tr_ (su_ d z) (su_ j z))⟩ (.cons z (.cons z (.cons z .nil)))
    ·refine WC.condF' z C (WC.exit (At.thenX (At.loopX ?_)))
     exact At.hitB (σ := Own) J ⟨brk1 h t, (su_ d z)⟩ .nil
   ·rintro aU aG ⟨rfl, U⟩
    replace h := flowK_go K
    refine (show At _ _ _ [] _ from ?_)
    refine At.inBlockHit (th (sq (rg (wY (ya z) z (nl (th (rt ?_)))))))
    obtain rfl := some1 h
    have aH : Stp [] (Lg.O0 A) w aU aG := (tr_ (su_ e z) (tr_ (su_ a z) (su_ U z)))
    exact At.res (.inl z) z (.tmp z .nil) ⟨z, (se_ aH z z)⟩
theorem c_ref08_Same {A : Nat → Prop} {v0_3 : Value} {v0_5 : Value} {a0 : api_Hist} {v1_3 : Value} {v1_5 : Value} {a1 : api_Hist} {w : World} (hs0_3 : Sl Rep.u w A v0_3 a0.Pos.Counts) (hs0_5 : Sl Rep.u w A v0_5 a0.Neg.Counts) (hs1_3 : Sl Rep.u w A v1_3 a1.Pos.Counts) (hs1_5 : Sl Rep.u w A v1_5 a1.Neg.Counts) {r0 : Bool} (h : ref08_Same a0 a1 = some r0) : Rets Try.prog 26 [ag [vi a0.Scale, vu a0.Zero, vi a0.Pos.Offset, v0_3, vi a0.Neg.Offset, v0_5], ag [vi a1.Scale, vu a1.Zero, vi a1.Pos.Offset, v1_3, vi a1.Neg.Offset, v1_5]] w (fun v w' => v = vB r0 ∧ Ext w w') := by
 unfold ref08_Same at h
 refine Rets.enter Try.func26 z z ?_
 have t : Sl Rep.u w (imm (Lg.O0 A)) v0_3 a0.Pos.Counts := (Sl.start hs0_3)
 have C : Sl Rep.u w (imm (Lg.O0 A)) v0_5 a0.Neg.Counts := (Sl.start hs0_5)
 have aa : Sl Rep.u w (imm (Lg.O0 A)) v1_3 a1.Pos.Counts := (Sl.start hs1_3)
 have ab : Sl Rep.u w (imm (Lg.O0 A)) v1_5 a1.Neg.Counts := (Sl.start hs1_5)
 refine (show WC _ _ _ _ [(0, ag [vi a0.Scale, vu a0.Zero, vi a0.Pos.Offset, v0_3, vi a0.Neg.Offset, v0_5]), (1, ag [vi a1.Scale, vu a1.Zero, vi a1.Pos.Offset, v1_3, vi a1.Neg.Offset, v1_5])] _ from ?_)
 refine sq (rg ?_)
 have ac := h
 obtain ⟨D, E, F, rfl⟩ := t.shape
 have h := ac
 have ad := h
 obtain ⟨G, H, I, rfl⟩ := C.shape
 have h := ad
 refine WL.box (O := (Lg.O0 A)) 11 [vi a0.Scale, vu a0.Zero, vi a0.Pos.Offset, (Value.slice D E F), vi a0.Neg.Offset, (Value.slice G H I)] z z z ?_
 intro p aE aR e ae
 have J := aa.i e z z
 have af := h
 obtain ⟨K, L, M, rfl⟩ := J.shape
 have h := af
 have P := ab.i e z z
 have ah := h
 obtain ⟨Q, S, T, rfl⟩ := P.shape
 have h := ah
 refine WL.box (O := aE) 12 [vi a1.Scale, vu a1.Zero, vi a1.Pos.Offset, (Value.slice K L M), vi a1.Neg.Offset, (Value.slice Q S T)] z z z ?_
 intro q U V a j
 refine wY (ya z) z (nl (th (sq (rg (wY (yf fo30_0 z) z ?_)))))
 have l := ae.st a z
 refine wY (yl ty3 z z (l.cell 0 _ z)) z (wY (yf fo30_0 z) z (wY (yl ty3 z z (j.cell 0 _ z)) z (wY (Y.eql_i z z) z (wY (ym z) z ?_))))
 refine WL.cut 6 (σ := Unit) (fun _ w' => V = w') (fun _ => [(2, pt p 0), (3, pt q 0), (16, vB ((decide (a0.Scale = a1.Scale)) && (decide (a0.Zero = a1.Zero))))]) ?_ ?_
 ·refine WL.part 10 z (fun m => ?_) (fun m => ?_)
  ·refine ug z z (wY (yf fo30_1 z) z (ug z z (wY (yl ty25 z z (l.cell 1 _ z)) z (ug z z (wY (yf fo30_1 z) z (ug z z (wY (yl ty25 z z (j.cell 1 _ z)) z (ug z z (wY (Y.eql_u z z) z ?_)))))))))
   refine wY (Y.pick (b := true) z z) z (WL.ren (v' := vB ((decide (a0.Scale = a1.Scale)) && (decide (a0.Zero = a1.Zero)))) 16 z (congrArg vB (andT m)) ?_)
   exact nl (At.join () z (.cons z (.cons z (.cons z .nil))))
  ·refine WL.gS z z z z (WL.gS z z z z (WL.gS z z z z (WL.gS z z z z (WL.gS z z z z (wY (Y.pick (b := false) z z) z (WL.ren (v' := vB ((decide (a0.Scale = a1.Scale)) && (decide (a0.Zero = a1.Zero)))) 16 z (congrArg vB (andF m)) ?_))))))
   exact nl (At.join () z (.cons z (.cons z (.cons z .nil))))
 ·rintro _ _ rfl
  refine (show WL _ _ _ _ _ [(2, pt p 0), (3, pt q 0), (16, vB ((decide (a0.Scale = a1.Scale)) && (decide (a0.Zero = a1.Zero))))] _ from ?_)
  refine wY (ym z) z ?_
  obtain ⟨aF, h, ai⟩ := bnd h
  refine WL.cut 6 (σ := (Bool × Own)) (fun x w' => x.1 = aF ∧ Stp [] U V x.2 w') (fun x => [(2, pt p 0), (3, pt q 0), (23, vB x.1)]) ?_ ?_
  ·rcases cnd h with ⟨n, h⟩ | ⟨n, h⟩
   ·refine WL.ren 17 z (congrArg vB n) (ug z z (wY (yf fo30_2 z) z (ug z z (wY (yL ty28 z z (l.cells 2 [vi a0.Pos.Offset, (Value.slice D E F)] z) z) z (ug z z (wY (yf fo30_2 z) z (ug z z (wY (yL ty28 z z (j.cells 2 [vi a1.Pos.Offset, (Value.slice K L M)] z) z) z (ug z z ?_)))))))))
    have aj := t.i e z z
    have ak := aj.i a z z
    have al := J.i a z z
    obtain ⟨aG, am, h⟩ := bnd h
    refine WL.call (vals := [ag [vi a0.Pos.Offset, (Value.slice D E F)], ag [vi a1.Pos.Offset, (Value.slice K L M)]]) kok56 z z (c_ref08_SameSide (A := fun _ => True) (a0 := a0.Pos) (a1 := a1.Pos) (Sl.all ak) (Sl.all al) am) ?_
    rintro aS aT ⟨rfl, an⟩
    obtain ⟨aH, aI, aJ, X⟩ := adoptE U (fun k => 1) an
    refine wY (Y.pick (b := true) z z) z ?_
    exact nl (At.join (σ := (Bool × Own)) (aG, aH) ⟨some1 h, (su_ X z)⟩ (.cons z (.cons z (.cons z .nil))))
   ·refine WL.ren 17 z (congrArg vB n) (WL.gS z z z z (WL.gS z z z z (WL.gS z z z z (WL.gS z z z z (WL.gS z z z z (wY (Y.pick (b := false) z z) z ?_))))))
    exact nl (At.join (σ := (Bool × Own)) (false, U) ⟨some1 h, (sr_ _ _ _)⟩ (.cons z (.cons z (.cons z .nil))))
  ·rintro ⟨aK, W⟩ ao ⟨rfl, d⟩
   replace h := ai
   try dsimp only at h d
   refine (show WL _ _ _ _ _ [(2, pt p 0), (3, pt q 0), (23, vB aK)] _ from ?_)
   refine wY (ym z) z ?_
   obtain ⟨aL, h, ap⟩ := bnd h
   refine WL.cut 6 (σ := (Bool × Own)) (fun x w' => x.1 = aL ∧ Stp [] W ao x.2 w') (fun x => [(30, vB x.1)]) ?_ ?_
   ·rcases cnd h with ⟨o, h⟩ | ⟨o, h⟩
    ·refine WL.ren 24 z (congrArg vB o) (ug z z (wY (yf fo30_3 z) z (ug z z ?_)))
     have aq := l.st d z
     refine wY (yL ty28 z z (aq.cells 4 [vi a0.Neg.Offset, (Value.slice G H I)] z) z) z (ug z z (wY (yf fo30_3 z) z (ug z z ?_)))
     have ar := j.st d z
     refine wY (yL ty28 z z (ar.cells 4 [vi a1.Neg.Offset, (Value.slice Q S T)] z) z) z (ug z z ?_)
     have au := C.i e z z
     have av := au.i a z z
     have aw := av.i d z z
     have ax := P.i a z z
     have ay := ax.i d z z
     obtain ⟨aM, az, h⟩ := bnd h
     refine WL.call (vals := [ag [vi a0.Neg.Offset, (Value.slice G H I)], ag [vi a1.Neg.Offset, (Value.slice Q S T)]]) kok56 z z (c_ref08_SameSide (A := fun _ => True) (a0 := a0.Neg) (a1 := a1.Neg) (Sl.all aw) (Sl.all ay) az) ?_
     rintro aU aW ⟨rfl, aA⟩
     obtain ⟨aN, aO, aP, Z⟩ := adoptE W (fun k => 1) aA
     refine wY (Y.pick (b := true) z z) z ?_
     exact nl (At.join (σ := (Bool × Own)) (aM, aN) ⟨some1 h, (su_ Z z)⟩ (.cons z .nil))
    ·refine WL.ren 24 z (congrArg vB o) (WL.gS z z z z (WL.gS z z z z (WL.gS z z z z (WL.gS z z z z (WL.gS z z z z (wY (Y.pick (b := false) z z) z ?_))))))
     exact nl (At.join (σ := (Bool × Own)) (false, W) ⟨some1 h, (sr_ _ _ _)⟩ (.cons z .nil))
   ·rintro ⟨x64, aQ⟩ aC ⟨rfl, r⟩
    replace h := ap
    try dsimp only at h r
    refine (show WL _ _ _ _ _ [(30, vB x64)] _ from ?_)
    refine wY (ya z) z (nl (th (rt ?_)))
    obtain rfl := some1 h
    have aD : Stp [] (Lg.O0 A) w aQ aC := (tr_ (su_ e z) (tr_ (su_ a z) (tr_ (su_ d z) (su_ r z))))
    exact At.res (.inl z) z (.tmp z .nil) ⟨z, (se_ aD z z)⟩
theorem c_fold_ends {A : Nat → Prop} {v0_1 : Value} {a0 : api_Side} {w : World} (hs0_1 : Sl Rep.u w A v0_1 a0.Counts) {r0 : Int} {r1 : Int} (h : fold_ends a0 = some (r0, r1)) : Rets Try.prog 87 [ag [vi a0.Offset, v0_1]] w (fun v w' => v = tp [vi r0, vi r1] ∧ Ext w w') := by
 unfold fold_ends at h
 refine Rets.enter Try.func87 z z ?_
 have j : Sl Rep.u w (imm (Lg.O0 A)) v0_1 a0.Counts := (Sl.start hs0_1)
 refine (show WC _ _ _ _ [(0, ag [vi a0.Offset, v0_1])] _ from ?_)
 refine sq (rg ?_)
 have n := h
 obtain ⟨C, D, E, rfl⟩ := j.shape
 have h := n
 refine WL.box (O := (Lg.O0 A)) 11 [vi a0.Offset, (Value.slice C D E)] z z z ?_
 intro H m F e o
 refine wY (ya z) z (wY (ya z) z (nl (th (sq (WC.draw 9 m fmix (by kernel_rfl) ?_)))))
 intro p a
 refine WS.y (yf fo28_0 z) z ?_
 have d := o.st a z
 refine WS.y (yl ty3 z z (d.cell 0 _ z)) z (WS.y (yf fo28_0 z) z (WS.y (yl ty3 z z (d.cell 0 _ z)) z (WS.y (yf fo28_1 z) z (WS.y (yl ty26 z z (d.cell 1 _ z)) z ?_))))
 have q := j.i e z z
 have r := q.i a z z
 refine WS.y (Y.len ty26 z r) z (WS.y (Y.add_i z z) z (WS.y (ya z) z (WS.tail ?_)))
 obtain ⟨G, l, h⟩ := lt1 h
 refine WL.yE (ya z) (congrArg vi l.symm) z (nl (th (rt ?_)))
 obtain ⟨rfl, rfl⟩ := tup2 h
 have t : Stp [] (Lg.O0 A) w m p := (tr_ (su_ e z) (su_ a z))
 exact At.res (.inl z) z (.tmp z (.tmp z .nil)) ⟨z, (se_ t z z)⟩
theorem c_fold_cover {A : Nat → Prop} {v0_1 : Value} {a0 : api_Side} {v1_1 : Value} {a1 : api_Side} {w : World} (hs0_1 : Sl Rep.u w A v0_1 a0.Counts) (hs1_1 : Sl Rep.u w A v1_1 a1.Counts) {r0 : Int} {r1 : Int} (h : fold_cover a0 a1 = some (r0, r1)) : Rets Try.prog 61 [ag [vi a0.Offset, v0_1], ag [vi a1.Offset, v1_1]] w (fun v w' => v = tp [vi r0, vi r1] ∧ Ext w w') := by
 unfold fold_cover at h
 refine Rets.enter Try.func61 z z ?_
 have D : Sl Rep.u w (imm (Lg.O0 A)) v0_1 a0.Counts := (Sl.start hs0_1)
 have V : Sl Rep.u w (imm (Lg.O0 A)) v1_1 a1.Counts := (Sl.start hs1_1)
 refine (show WC _ _ _ _ [(0, ag [vi a0.Offset, v0_1]), (1, ag [vi a1.Offset, v1_1])] _ from ?_)
 refine sq (rg ?_)
 have W := h
 obtain ⟨E, F, G, rfl⟩ := D.shape
 have h := W
 refine WL.box (O := (Lg.O0 A)) 11 [vi a0.Offset, (Value.slice E F G)] z z z ?_
 intro aL ar aD d X
 have n := V.i d z z
 have Z := h
 obtain ⟨H, I, J, rfl⟩ := n.shape
 have h := Z
 refine WL.box (O := ar) 12 [vi a1.Offset, (Value.slice H I J)] z z z ?_
 intro aM m aE a o
 refine wY (ya z) z (wY (ya z) z (nl (th (sq (sq (rg (wY (yf fo28_1 z) z ?_)))))))
 have p := X.st a z
 refine wY (yl ty26 z z (p.cell 1 _ z)) z ?_
 have aa := D.i d z z
 have q := aa.i a z z
 refine wY (Y.len ty26 z q) z (wY (Y.eql_i z z) z (nl (th ?_)))
 rcases cnd h with ⟨r, h⟩ | ⟨r, h⟩
 ·refine WC.condT' z r (sq (WC.draw 6 m fmix (by kernel_rfl) ?_))
  intro ab e
  refine WS.y (yf fo28_0 z) z ?_
  have K := o.st e z
  refine WS.y (yl ty3 z z (K.cell 0 _ z)) z (WS.y (yf fo28_1 z) z (WS.y (yl ty26 z z (K.cell 1 _ z)) z ?_))
  have ac := n.i a z z
  have ad := ac.i e z z
  refine WS.y (Y.len ty26 z ad) z (WS.y (ya z) z (WS.tail ?_))
  obtain ⟨aF, Q, h⟩ := lt1 h
  refine WL.yE (ya z) (congrArg vi Q.symm) z (nl (th (rt (At.thenR ?_))))
  obtain ⟨rfl, rfl⟩ := tup2 h
  have ae : Stp [] (Lg.O0 A) w m ab := (tr_ (su_ d z) (tr_ (su_ a z) (su_ e z)))
  exact At.res (.inl z) z (.tmp z (.tmp z .nil)) ⟨z, (se_ ae z z)⟩
 ·refine WC.condF' z r (sk (th (sq (sq (rg (wY (yf fo28_1 z) z (wY (yl ty26 z z (o.cell 1 _ z)) z ?_)))))))
  have L := n.i a z z
  refine wY (Y.len ty26 z L) z (wY (Y.eql_i z z) z (nl (th ?_)))
  rcases cnd h with ⟨t, h⟩ | ⟨t, h⟩
  ·refine WC.condT' z t (sq (WC.draw 6 m fmix (by kernel_rfl) ?_))
   intro af j
   refine WS.y (yf fo28_0 z) z ?_
   have M := p.st j z
   refine WS.y (yl ty3 z z (M.cell 0 _ z)) z (WS.y (yf fo28_1 z) z (WS.y (yl ty26 z z (M.cell 1 _ z)) z ?_))
   have ah := q.i j z z
   refine WS.y (Y.len ty26 z ah) z (WS.y (ya z) z (WS.tail ?_))
   obtain ⟨aG, S, h⟩ := lt1 h
   refine WL.yE (ya z) (congrArg vi S.symm) z (nl (th (rt (At.thenR ?_))))
   obtain ⟨rfl, rfl⟩ := tup2 h
   have ai : Stp [] (Lg.O0 A) w m af := (tr_ (su_ d z) (tr_ (su_ a z) (su_ j z)))
   exact At.res (.inl z) z (.tmp z (.tmp z .nil)) ⟨z, (se_ ai z z)⟩
  ·refine WC.condF' z t (sk (th (sq (rg (wY (yL ty28 z z (p.cells 0 [vi a0.Offset, (Value.slice E F G)] z) z) z ?_)))))
   obtain ⟨⟨aN, aO⟩, aj, h⟩ := bnd h
   refine WL.call (vals := [ag [vi a0.Offset, (Value.slice E F G)]]) kok87 z z (c_fold_ends (A := fun _ => True) (a0 := a0) (Sl.all q) aj) ?_
   rintro aH aI ⟨rfl, ak⟩
   obtain ⟨au, av, aw, l⟩ := adoptE m (fun k => 1) ak
   refine wY (ym z) z (wY (yx z z) z (wY (yx z z) z (wY (ya z) z (wY (ya z) z (nl (th (sq (rg ?_))))))))
   have al := o.st l z
   refine wY (yL ty28 z z (al.cells 0 [vi a1.Offset, (Value.slice H I J)] z) z) z ?_
   have am := L.i l z z
   obtain ⟨⟨aP, aQ⟩, an, h⟩ := bnd h
   refine WL.call (vals := [ag [vi a1.Offset, (Value.slice H I J)]]) kok87 z z (c_fold_ends (A := fun _ => True) (a0 := a1) (Sl.all am) an) ?_
   rintro aJ ao ⟨rfl, ap⟩
   obtain ⟨ax, ay, az, T⟩ := adoptE au (fun k => 1) ap
   refine wY (ym z) z (wY (yx z z) z (wY (yx z z) z (wY (ya z) z (wY (ya z) z (nl (th (sq (rg (wY (ym z) z ?_)))))))))
   refine wY (ym z) z (wY (Y.min_i z z) z (wY (ym z) z (wY (ym z) z (wY (Y.max_i z z) z ?_))))
   obtain ⟨aA, C, h⟩ := lt1 h
   refine WL.yE (ya z) (congrArg vi C.symm) z ?_
   obtain ⟨aC, P, h⟩ := lt1 h
   refine WL.yE (ya z) (congrArg vi P.symm) z (nl (th (sq (rg (wY (ym z) z (wY (ym z) z (wY (ym z) z (wY (Y.sub_i z z) z (wY (ya z) z ?_)))))))))
   obtain ⟨aK, U, h⟩ := lt1 h
   refine WL.yE (ya z) (congrArg vi U.symm) z (nl (th (rt ?_)))
   obtain ⟨rfl, rfl⟩ := tup2 h
   have aq : Stp [] (Lg.O0 A) w ax ao := (tr_ (su_ d z) (tr_ (su_ a z) (tr_ (su_ l z) (su_ T z))))
   exact At.res (.inl z) z (.tmp z (.tmp z .nil)) ⟨z, (se_ aq z z)⟩
theorem c_fold_Merge {A : Nat → Prop} {v0_3 : Value} {v0_5 : Value} {a0 : api_Hist} {v1_3 : Value} {v1_5 : Value} {a1 : api_Hist} {w : World} (hs0_3 : Sl Rep.u w A v0_3 a0.Pos.Counts) (hs0_5 : Sl Rep.u w A v0_5 a0.Neg.Counts) (hs1_3 : Sl Rep.u w A v1_3 a1.Pos.Counts) (hs1_5 : Sl Rep.u w A v1_5 a1.Neg.Counts) {r0 : api_Hist} {r1 : Int} (h : fold_Merge a0 a1 = some (r0, r1)) : Rets Try.prog 32 [ag [vi a0.Scale, vu a0.Zero, vi a0.Pos.Offset, v0_3, vi a0.Neg.Offset, v0_5], ag [vi a1.Scale, vu a1.Zero, vi a1.Pos.Offset, v1_3, vi a1.Neg.Offset, v1_5]] w (fun v w' => ∃ (cD : Value) (cE : Value), v = Value.tuple (List.toArray [ag [vi r0.Scale, vu r0.Zero, vi r0.Pos.Offset, cD, vi r0.Neg.Offset, cE], vi r1]) ∧ Ext w w' ∧ Sl Rep.u w' (fun k => w.heap.size ≤ k) cD r0.Pos.Counts ∧ Sl Rep.u w' (fun k => w.heap.size ≤ k) cE r0.Neg.Counts) := by
 unfold fold_Merge at h
 refine Rets.enter Try.func32 z z ?_
 have cF : Sl Rep.u w (imm (Lg.O0 A)) v0_3 a0.Pos.Counts := (Sl.start hs0_3)
 have cG : Sl Rep.u w (imm (Lg.O0 A)) v0_5 a0.Neg.Counts := (Sl.start hs0_5)
 have iP : Sl Rep.u w (imm (Lg.O0 A)) v1_3 a1.Pos.Counts := (Sl.start hs1_3)
 have iQ : Sl Rep.u w (imm (Lg.O0 A)) v1_5 a1.Neg.Counts := (Sl.start hs1_5)
 refine (show WC _ _ _ _ [(0, ag [vi a0.Scale, vu a0.Zero, vi a0.Pos.Offset, v0_3, vi a0.Neg.Offset, v0_5]), (1, ag [vi a1.Scale, vu a1.Zero, vi a1.Pos.Offset, v1_3, vi a1.Neg.Offset, v1_5])] _ from ?_)
 refine sq (rg ?_)
 have iR := h
 obtain ⟨cH, cI, cJ, rfl⟩ := cF.shape
 have h := iR
 have iS := h
 obtain ⟨cK, cL, cM, rfl⟩ := cG.shape
 have h := iS
 refine WL.box (O := (Lg.O0 A)) 11 [vi a0.Scale, vu a0.Zero, vi a0.Pos.Offset, (Value.slice cH cI cJ), vi a0.Neg.Offset, (Value.slice cK cL cM)] z z z ?_
 intro ms ko lG an iT
 have cN := iP.i an z z
 have iU := h
 obtain ⟨cO, cP, cQ, rfl⟩ := cN.shape
 have h := iU
 have cR := iQ.i an z z
 have iV := h
 obtain ⟨cS, cT, cU, rfl⟩ := cR.shape
 have h := iV
 refine WL.box (O := ko) 12 [vi a1.Scale, vu a1.Zero, vi a1.Pos.Offset, (Value.slice cO cP cQ), vi a1.Neg.Offset, (Value.slice cS cT cU)] z z z ?_
 intro mt kp lH ac iW
 refine WL.alloc (O := kp) 13 [vi 0, vu 0, vi 0, Value.slice none 0 0, vi 0, Value.slice none 0 0] ty30 z z ?_
 intro Q kq lI S aO
 refine wY (ya z) z (nl (th (sq (rg ?_))))
 have iX := iT.st ac z
 have iY := iX.st S z
 refine wY (yL ty30 z z (iY.cells 0 [vi a0.Scale, vu a0.Zero, vi a0.Pos.Offset, (Value.slice cH cI cJ), vi a0.Neg.Offset, (Value.slice cK cL cM)] z) z) z ?_
 have iZ := iW.st S z
 refine wY (yL ty30 z z (iZ.cells 0 [vi a1.Scale, vu a1.Zero, vi a1.Pos.Offset, (Value.slice cO cP cQ), vi a1.Neg.Offset, (Value.slice cS cT cU)] z) z) z ?_
 have i0 := cF.i an z z
 have i1 := i0.i ac z z
 have i2 := i1.i S z z
 have i3 := cG.i an z z
 have i4 := i3.i ac z z
 have i5 := i4.i S z z
 have i6 := cN.i ac z z
 have i7 := i6.i S z z
 have i8 := cR.i ac z z
 have i9 := i8.i S z z
 obtain ⟨⟨a, d, mu⟩, ja, h⟩ := bnd h
 refine WL.call (vals := [ag [vi a0.Scale, vu a0.Zero, vi a0.Pos.Offset, (Value.slice cH cI cJ), vi a0.Neg.Offset, (Value.slice cK cL cM)], ag [vi a1.Scale, vu a1.Zero, vi a1.Pos.Offset, (Value.slice cO cP cQ), vi a1.Neg.Offset, (Value.slice cS cT cU)]]) kok52 z z (c_fold_Level (A := fun _ => True) (a0 := a0) (a1 := a1) (Sl.all i2) (Sl.all i5) (Sl.all i7) (Sl.all i9) ja) ?_
 rintro lJ a9 ⟨kr, ks, kt, ku, rfl, jb, kv, kw, kx, ky⟩
 obtain ⟨bR, kz, av, ad⟩ := adoptE kq (fun k => 1) jb
 have jc : Sl Rep.u a9 (frs bR) kr a.Pos.Counts := Sl.adoptF kv (fun k hk => ⟨hk, z⟩) av
 have jd : Sl Rep.u a9 (frs bR) ks a.Neg.Counts := Sl.adoptF kw (fun k hk => ⟨hk, z⟩) av
 have je : Sl Rep.u a9 (frs bR) kt d.Pos.Counts := Sl.adoptF kx (fun k hk => ⟨hk, z⟩) av
 have jf : Sl Rep.u a9 (frs bR) ku d.Neg.Counts := Sl.adoptF ky (fun k hk => ⟨hk, z⟩) av
 refine wY (ym z) z (wY (yx z z) z (wY (yx z z) z (wY (yx z z) z (WL.alloc (O := bR) 14 [vi 0, vu 0, vi 0, Value.slice none 0 0, vi 0, Value.slice none 0 0] ty30 z z ?_))))
 intro mv kA lK E jg
 refine WL.alloc (O := kA) 15 [vi 0, vu 0, vi 0, Value.slice none 0 0, vi 0, Value.slice none 0 0] ty30 z z ?_
 intro mw iO lL q jh
 have ji := jc.f E z
 have cV := ji.f q z
 have jj := h
 obtain ⟨ak, al, am, rfl⟩ := cV.shape
 have h := jj
 have dy := jd.f E z
 have b4 := dy.f q z
 have dz := h
 obtain ⟨F, G, H, rfl⟩ := b4.shape
 have h := dz
 have dA := jg.st q z
 refine WL.store (v := ag [vi a.Scale, vu a.Zero, vi a.Pos.Offset, (Value.slice ak al am), vi a.Neg.Offset, (Value.slice F G H)]) (cells' := [vi a.Scale, vu a.Zero, vi a.Pos.Offset, (Value.slice ak al am), vi a.Neg.Offset, (Value.slice F G H)]) ty30 z z dA z (le_ z) z z ?_
 intro kF l dB
 have dC := je.f E z
 have dD := dC.f q z
 have b5 := dD.f l z
 have dE := h
 obtain ⟨I, J, K, rfl⟩ := b5.shape
 have h := dE
 have dF := jf.f E z
 have dG := dF.f q z
 have b6 := dG.f l z
 have dH := h
 obtain ⟨L, M, P, rfl⟩ := b6.shape
 have h := dH
 have dI := jh.st l z
 refine WL.store (v := ag [vi d.Scale, vu d.Zero, vi d.Pos.Offset, (Value.slice I J K), vi d.Neg.Offset, (Value.slice L M P)]) (cells' := [vi d.Scale, vu d.Zero, vi d.Pos.Offset, (Value.slice I J K), vi d.Neg.Offset, (Value.slice L M P)]) ty30 z z dI z (le_ z) z z ?_
 intro kG m dJ
 refine wY (ya z) z (nl (th (sq (sq (rg (wY (ym z) z (wY (Y.neq_i z z) z (nl (th ?_)))))))))
 rcases cnd h with ⟨ba, h⟩ | ⟨ba, h⟩
 ·refine WC.condT' z ba (sq (rg (wY (yb (vals := []) (cells := [vi 0, vu 0, vi 0, Value.slice none 0 0, vi 0, Value.slice none 0 0]) (fe_ z) (by kernel_rfl)) z (wY (ym z) z ?_))))
  have dK := aO.st ad z
  have dL := dK.st E z
  have dM := dL.st q z
  have dN := dM.st l z
  have dO := dN.st m z
  refine WL.store (v := ag [vi 0, vu 0, vi 0, Value.slice none 0 0, vi 0, Value.slice none 0 0]) (cells' := [vi 0, vu 0, vi 0, Value.slice none 0 0, vi 0, Value.slice none 0 0]) ty30 z z dO z (le_ z) z z ?_
  intro dP cW dQ
  refine wY (ya z) z (nl (th (rt (At.thenR ?_))))
  obtain ⟨rfl, rfl⟩ := tup2 h
  have dR : Stp [13, 14, 15] (Lg.O0 A) w iO dP := (tr_ (su_ an z) (tr_ (su_ ac z) (tr_ (su_ S z) (tr_ (su_ ad z) (tr_ (su_ E z) (tr_ (su_ q z) (tr_ (su_ l z) (tr_ (su_ m z) (su_ cW z)))))))))
  exact At.res (.inl z) z (.cell z (dQ.runAg 0 [vi 0, vu 0, vi 0, Value.slice none 0 0, vi 0, Value.slice none 0 0] ty30 z z z) (.tmp z .nil)) ⟨Value.slice none 0 0, Value.slice none 0 0, z, (se_ dR z z), (Or.inl ⟨z, z⟩), (Or.inl ⟨z, z⟩)⟩
 ·refine WC.condF' z ba (sk (th (sq (rg ?_))))
  have b7 := dB.st m z
  refine wY (yL ty30 z z (b7.cells 0 [vi a.Scale, vu a.Zero, vi a.Pos.Offset, (Value.slice ak al am), vi a.Neg.Offset, (Value.slice F G H)] z) z) z ?_
  have dS := cV.f l z
  have b8 := dS.f m z
  have dT := b4.f l z
  have b9 := dT.f m z
  obtain ⟨⟨lM, lN⟩, dU, h⟩ := bnd h
  refine WL.call (vals := [ag [vi a.Scale, vu a.Zero, vi a.Pos.Offset, (Value.slice ak al am), vi a.Neg.Offset, (Value.slice F G H)]]) kok27 z z (c_hist_Total (A := fun _ => True) (a0 := a) (Sl.all b8) (Sl.all b9) dU) ?_
  rintro kH kI ⟨rfl, dV⟩
  obtain ⟨jk, j7, j8, n⟩ := adoptE iO (fun k => 1) dV
  refine wY (ym z) z (wY (yx z z) z (wY (yx z z) z (wY (ya z) z (wY (ya z) z (nl (th (sq (rg ?_))))))))
  have ca := dJ.st n z
  refine wY (yL ty30 z z (ca.cells 0 [vi d.Scale, vu d.Zero, vi d.Pos.Offset, (Value.slice I J K), vi d.Neg.Offset, (Value.slice L M P)] z) z) z ?_
  have dW := b5.f m z
  have cb := dW.f n z
  have dX := b6.f m z
  have cc := dX.f n z
  obtain ⟨⟨lO, lP⟩, dY, h⟩ := bnd h
  refine WL.call (vals := [ag [vi d.Scale, vu d.Zero, vi d.Pos.Offset, (Value.slice I J K), vi d.Neg.Offset, (Value.slice L M P)]]) kok27 z z (c_hist_Total (A := fun _ => True) (a0 := d) (Sl.all cb) (Sl.all cc) dY) ?_
  rintro kJ kK ⟨rfl, dZ⟩
  obtain ⟨cX, j9, ka, o⟩ := adoptE jk (fun k => 1) dZ
  refine wY (ym z) z (wY (yx z z) z (wY (yx z z) z (wY (ya z) z (wY (ya z) z (nl (th (sq (sq (rg ?_)))))))))
  refine wY (ym z) z (wY (ym z) z (wY (Y.add64 (c := 0) x64_58 (by decide) z z z) z (wY (ym z) z (wY (yx z z) z (wY (yx z z) z ?_)))))
  obtain ⟨lQ, d0, h⟩ := lt1 h
  refine WL.yE (ya z) (congrArg vu d0.symm) z ?_
  obtain ⟨jl, bS, h⟩ := lt1 h
  refine WL.yE (ya z) (congrArg vu bS.symm) z (nl (th (sq (rg (wY (ym z) z (wY (Y.neq_u (b := 0) z z) z (nl (th ?_))))))))
  rcases cnd h with ⟨bb, h⟩ | ⟨bb, h⟩
  ·refine WC.condT' z bb (sq (rg (wY (yb (vals := []) (cells := [vi 0, vu 0, vi 0, Value.slice none 0 0, vi 0, Value.slice none 0 0]) (fe_ z) (by kernel_rfl)) z ?_)))
   have d1 := aO.st ad z
   have d2 := d1.st E z
   have d3 := d2.st q z
   have d4 := d3.st l z
   have d5 := d4.st m z
   have d6 := d5.st n z
   have d7 := d6.st o z
   refine WL.store (v := ag [vi 0, vu 0, vi 0, Value.slice none 0 0, vi 0, Value.slice none 0 0]) (cells' := [vi 0, vu 0, vi 0, Value.slice none 0 0, vi 0, Value.slice none 0 0]) ty30 z z d7 z (le_ z) z z ?_
   intro d8 cY d9
   refine wY (ya z) z (nl (th (rt (At.thenR ?_))))
   obtain ⟨rfl, rfl⟩ := tup2 h
   have ea : Stp [13, 14, 15] (Lg.O0 A) w cX d8 := (tr_ (su_ an z) (tr_ (su_ ac z) (tr_ (su_ S z) (tr_ (su_ ad z) (tr_ (su_ E z) (tr_ (su_ q z) (tr_ (su_ l z) (tr_ (su_ m z) (tr_ (su_ n z) (tr_ (su_ o z) (su_ cY z)))))))))))
   exact At.res (.inl z) z (.cell z (d9.runAg 0 [vi 0, vu 0, vi 0, Value.slice none 0 0, vi 0, Value.slice none 0 0] ty30 z z z) (.tmp z .nil)) ⟨Value.slice none 0 0, Value.slice none 0 0, z, (se_ ea z z), (Or.inl ⟨z, z⟩), (Or.inl ⟨z, z⟩)⟩
  ·refine WC.condF' z bb (sk (th (sq (rg (wY (yf fo30_0 z) z ?_)))))
   have eb := b7.st n z
   have bc := eb.st o z
   refine wY (yl ty3 z z (bc.cell 0 _ z)) z (wY (yf fo30_1 z) z (wY (yl ty25 z z (bc.cell 1 _ z)) z (wY (yf fo30_1 z) z ?_)))
   have cd := ca.st o z
   refine wY (yl ty25 z z (cd.cell 1 _ z)) z (wY (Y.add_u z z) z (wY (yb (vals := [(0, vi a.Scale), (1, vu (a.Zero + d.Zero))]) (cells := [vi a.Scale, vu (a.Zero + d.Zero), vi 0, Value.slice none 0 0, vi 0, Value.slice none 0 0]) (fe_ z) (by kernel_rfl)) z (WL.alloc (O := cX) 16 [vi 0, vu 0, vi 0, Value.slice none 0 0, vi 0, Value.slice none 0 0] ty30 z z ?_)))
   intro e jm kL r ec
   refine WL.store (v := ag [vi a.Scale, vu (a.Zero + d.Zero), vi 0, Value.slice none 0 0, vi 0, Value.slice none 0 0]) (cells' := [vi a.Scale, vu (a.Zero + d.Zero), vi 0, Value.slice none 0 0, vi 0, Value.slice none 0 0]) ty30 z z ec z (le_ z) z z ?_
   intro kM t bd
   refine nl (th (sq (sq (rg (wY (yf fo30_2 z) z (wY (yf fo30_2 z) z ?_))))))
   have ed := bc.st r z
   have ce := ed.st t z
   refine wY (yL ty28 z z (ce.cells 2 [vi a.Pos.Offset, (Value.slice ak al am)] z) z) z (wY (yf fo30_2 z) z ?_)
   have ee := cd.st r z
   have cf := ee.st t z
   refine wY (yL ty28 z z (cf.cells 2 [vi d.Pos.Offset, (Value.slice I J K)] z) z) z (wY (yb (vals := [(0, pt e 2), (1, ag [vi a.Pos.Offset, (Value.slice ak al am)]), (2, ag [vi d.Pos.Offset, (Value.slice I J K)])]) (cells := [pt e 2, vi a.Pos.Offset, (Value.slice ak al am), vi d.Pos.Offset, (Value.slice I J K)]) (fe_ z) (by kernel_rfl)) z (wY (yf fo30_3 z) z (wY (yf fo30_3 z) z (wY (yL ty28 z z (ce.cells 4 [vi a.Neg.Offset, (Value.slice F G H)] z) z) z (wY (yf fo30_3 z) z (wY (yL ty28 z z (cf.cells 4 [vi d.Neg.Offset, (Value.slice L M P)] z) z) z (wY (yb (vals := [(0, pt e 4), (1, ag [vi a.Neg.Offset, (Value.slice F G H)]), (2, ag [vi d.Neg.Offset, (Value.slice L M P)])]) (cells := [pt e 4, vi a.Neg.Offset, (Value.slice F G H), vi d.Neg.Offset, (Value.slice L M P)]) (fe_ z) (by kernel_rfl)) z (WL.buildLit (O := jm) (vals := [(0, ag [pt e 2, vi a.Pos.Offset, (Value.slice ak al am), vi d.Pos.Offset, (Value.slice I J K)]), (1, ag [pt e 4, vi a.Neg.Offset, (Value.slice F G H), vi d.Neg.Offset, (Value.slice L M P)])]) 17 [pt e 2, vi a.Pos.Offset, (Value.slice ak al am), vi d.Pos.Offset, (Value.slice I J K), pt e 4, vi a.Neg.Offset, (Value.slice F G H), vi d.Neg.Offset, (Value.slice L M P)] ty95 ty94 (by decide) (by decide) (fe_ z) (by kernel_rfl) z ?_))))))))
   intro j cZ ef p cg
   refine WL.yE (Y.lenv ty95 z) (show vi ((2 : Nat) : Int) = vi 2 from z) z (wY (ym z) z (nl (th (WC.block (WC.unroll 2 (sq (rg (WL.yE (Y.lss_i z z) (congrArg vB (by decide : decide ((0 : Int) < (2 : Int)) = true)) z (nl ?_)))))))))
   refine th (sq (WC.condT z (sk (th (sq ?_)))))
   obtain ⟨jn, h, ch⟩ := flow1 h
   refine WC.join (σ := (Int × List UInt64 × Own × Value)) (fun x w' => jn = .go (x.1, x.2.1) ∧ Stp [16, 18, 19, 20, 1001, 1002, 1003, 1005] cZ ef x.2.2.1 w' ∧ OwnSl 1008 Rep.u 25 x.2.2.1 w' x.2.2.2 x.2.1 ∧ Blk 16 x.2.2.1 w' e 30 [vi a.Scale, vu (a.Zero + d.Zero), vi x.1, x.2.2.2, vi 0, Value.slice none 0 0]) (fun x => [(4, pt Q 0), (15, pt e 0), (71, Value.slice (some ⟨j, 0, none⟩) 2 2), (72, vi 2), (73, vi 0)]) ?_ ?_
   ·refine WC.block (sq (rg (WL.yE (Y.indexAddr ty95 ty94 z z z (by decide) (by decide)) (show (Value.pointer (some ⟨j, 0 + (0 : Int).toNat * 5, none⟩)) = .pointer (some ⟨j, 0, none⟩) from z) z (wY (yL ty94 z z (cg.cells 0 [pt e 2, vi a.Pos.Offset, (Value.slice ak al am), vi d.Pos.Offset, (Value.slice I J K)] z) z) z (WL.alloc (O := cZ) 18 [Value.pointer none, vi 0, Value.slice none 0 0, vi 0, Value.slice none 0 0] ty94 z z ?_)))))
    intro bf jo kN T eg
    refine WL.store (v := ag [pt e 2, vi a.Pos.Offset, (Value.slice ak al am), vi d.Pos.Offset, (Value.slice I J K)]) (cells' := [pt e 2, vi a.Pos.Offset, (Value.slice ak al am), vi d.Pos.Offset, (Value.slice I J K)]) ty94 z z eg z (le_ z) z z ?_
    intro kO U aw
    refine nl (th (sq (rg (wY (yf fo94_1 z) z (wY (yL ty28 z z (aw.cells 1 [vi a.Pos.Offset, (Value.slice ak al am)] z) z) z (wY (yf fo94_2 z) z (wY (yL ty28 z z (aw.cells 3 [vi d.Pos.Offset, (Value.slice I J K)] z) z) z ?_)))))))
    have eh := b8.f n z
    have ei := eh.f o z
    have ej := ei.f r z
    have ek := ej.f t z
    have em := ek.f p z
    have en := em.f T z
    have ci := en.f U z
    have eo := cb.f o z
    have ep := eo.f r z
    have er := ep.f t z
    have es := er.f p z
    have et := es.f T z
    have cj := et.f U z
    obtain ⟨⟨V, lR⟩, eu, h⟩ := bnd h
    refine WL.call (vals := [ag [vi a.Pos.Offset, (Value.slice ak al am)], ag [vi d.Pos.Offset, (Value.slice I J K)]]) kok61 z z (c_fold_cover (A := fun _ => True) (a0 := a.Pos) (a1 := d.Pos) (Sl.all ci) (Sl.all cj) eu) ?_
    rintro kP kQ ⟨rfl, ew⟩
    obtain ⟨aC, kb, kc, C⟩ := adoptE jo (fun k => 1) ew
    refine wY (ym z) z (wY (yx z z) z (wY (yx z z) z (wY (ya z) z (wY (ya z) z (nl (th (sq (sq (rg ?_)))))))))
    refine wY (ym z) z (wY (Y.gtr_i z z) z (nl (th ?_)))
    rcases cnd h with ⟨bg, h⟩ | ⟨bg, h⟩
    ·refine WC.condT' z bg (sq (rg (wY (yb (vals := []) (cells := [vi 0, vu 0, vi 0, Value.slice none 0 0, vi 0, Value.slice none 0 0]) (fe_ z) (by kernel_rfl)) z ?_)))
     have ex := aO.st ad z
     have ey := ex.st E z
     have ez := ey.st q z
     have eA := ez.st l z
     have eB := eA.st m z
     have eC := eB.st n z
     have eD := eC.st o z
     have eE := eD.st r z
     have eF := eE.st t z
     have eG := eF.st p z
     have eH := eG.st T z
     have eI := eH.st U z
     have eJ := eI.st C z
     refine WL.store (v := ag [vi 0, vu 0, vi 0, Value.slice none 0 0, vi 0, Value.slice none 0 0]) (cells' := [vi 0, vu 0, vi 0, Value.slice none 0 0, vi 0, Value.slice none 0 0]) ty30 z z eJ z (le_ z) z z ?_
     intro eK c0 eL
     refine wY (ya z) z (nl (th (rt (At.thenR (At.inBlockR ?_)))))
     have h := outs1 h ch
     refine At.joinR (At.thenR (At.thenR (At.inBlockR (At.thenR ?_))))
     obtain ⟨rfl, rfl⟩ := tup2 h
     have eM : Stp [13, 14, 15, 16, 18] (Lg.O0 A) w aC eK := (tr_ (su_ an z) (tr_ (su_ ac z) (tr_ (su_ S z) (tr_ (su_ ad z) (tr_ (su_ E z) (tr_ (su_ q z) (tr_ (su_ l z) (tr_ (su_ m z) (tr_ (su_ n z) (tr_ (su_ o z) (tr_ (su_ r z) (tr_ (su_ t z) (tr_ (su_ p z) (tr_ (su_ T z) (tr_ (su_ U z) (tr_ (su_ C z) (su_ c0 z)))))))))))))))))
     exact At.res (.inl z) z (.cell z (eL.runAg 0 [vi 0, vu 0, vi 0, Value.slice none 0 0, vi 0, Value.slice none 0 0] ty30 z z z) (.tmp z .nil)) ⟨Value.slice none 0 0, Value.slice none 0 0, z, (se_ eM z z), (Or.inl ⟨z, z⟩), (Or.inl ⟨z, z⟩)⟩
    ·refine WC.condF' z bg (sk (th (sq (sq (rg (wY (ym z) z (wY (Y.eql_i z z) z (nl (th ?_)))))))))
     rcases cnd h with ⟨bh, h⟩ | ⟨bh, h⟩
     ·refine WC.condT' z bh (WC.exit (At.thenX (At.inBlockHit ?_)))
      have eN := bd.st p z
      have eO := eN.st T z
      have eP := eO.st U z
      have eQ := eP.st C z
      exact At.join (σ := (Int × List UInt64 × Own × Value)) (0, [], aC, Value.slice none 0 0) ⟨go2 h, (tr_ (su_ T z) (tr_ (su_ U z) (su_ C z))), (OwnSl.nil 1008 Rep.u 25), eQ⟩ (.cons z (.cons z (.cons z (.cons z (.cons z .nil)))))
     ·refine WC.condF' z bh (sk (th (sq (WC.drawH [16, 19, 20] [0, 1, 2, 3, 4, 5, 6, 7, 8, 9, 10, 11] aC 13 fmix z (by kernel_rfl) ?_))))
      intro eR ae
      refine WD.y 0 z (by kernel_rfl) (fun _ _ _ => yf fo94_0 z) z (WD.y 1 z (by kernel_rfl) (fun kR lS c1 => have eS := aw.st C z; have eT := eS.st ae z; have eU := eT.st c1 z; yl ty93 z z (eU.cell 0 _ z)) z (WD.y 2 z (by kernel_rfl) (fun _ _ _ => yf fo94_0 z) z (WD.y 3 z (by kernel_rfl) (fun kS lT c2 => have eV := aw.st C z; have eW := eV.st ae z; have eX := eW.st c2 z; yl ty93 z z (eX.cell 0 _ z)) z (WD.y 4 z (by kernel_rfl) (fun _ _ _ => ym z) z (WD.y 5 z (by kernel_rfl) (fun _ _ _ => ym z) z (WD.y 7 z (by kernel_rfl) (fun _ _ _ => yn z) z (WD.y 8 z (by kernel_rfl) (fun _ _ _ => yf fo28_0 z) z ?_)))))))
      obtain ⟨jp, h, eY⟩ := bnd h
      refine WD.join (σ := (List UInt64 × Own × Value)) (f' := 1) [11, 10, 9, 8, 7, 6, 5, 4, 3, 2, 1, 0] (fun x O' w' => x.1 = jp ∧ Stp [16, 19, 20] aC eR x.2.1 w' ∧ Blk 16 x.2.1 w' e 30 [vi a.Scale, vu (a.Zero + d.Zero), vi V, Value.slice none 0 0, vi 0, Value.slice none 0 0] ∧ OwnSl 1001 Rep.u 25 x.2.1 w' x.2.2 x.1 ∧ x.2.1 = O') (fun x => [(4, pt Q 0), (15, pt e 0), (17, pt bf 0), (18, vi V), (71, Value.slice (some ⟨j, 0, none⟩) 2 2), (72, vi 2), (73, vi 0), (96, x.2.2), (100, pt e 3)]) (fun ck => ?_) ?_
      ·refine WD.heavy2 6 9 z z (by kernel_rfl) ?_ ?_
       ·obtain ⟨jq, eZ, h⟩ := bnd h
        refine WL.make (O := aC) (R := Rep.u) (zx := (0 : UInt64)) 19 (by decide) ty26 ty25 z (by decide) (by decide) z z (fun _ _ => z) eZ z ?_
        intro jr lU kT aP e0
        refine nl (At.dq (su_ aP z) (WD.heavy 9 z (by kernel_rfl) ?_))
        have e1 := bd.st p z
        have e2 := e1.st T z
        have e5 := e2.st U z
        have e6 := e5.st C z
        have e7 := e6.st ae z
        have e8 := e7.st aP z
        refine WL.store (v := vi V) (cells' := [vi a.Scale, vu (a.Zero + d.Zero), vi V, Value.slice none 0 0, vi 0, Value.slice none 0 0]) ty3 z z e8 z (le_ z) z z ?_
        intro kU aQ e9
        refine nl (At.dq (su_ aQ z) (WD.y 10 z (by kernel_rfl) (fun _ _ _ => yn z) z (WD.y 11 z (by kernel_rfl) (fun _ _ _ => yf fo28_1 z) z ?_)))
        have fa := e0.st aQ z z z
        obtain ⟨js, aR, fb⟩ := OwnSl.rlb 1001 rfl fa
        have fc := e9.st aR z
        refine WD.own (su_ aR z) (WD.perm _ [11, 10, 9, 8, 7, 6, 5, 4, 3, 2, 1, 0] (by kernel_rfl) ?_)
        exact ck (jq, js, jr) _ _ _ ⟨some1 h, (tr_ (su_ aP z) (tr_ (su_ aQ z) (su_ aR z))), fc, fb, z⟩ (.cons z (.cons z (.cons z (.cons z (.cons z (.cons z (.cons z (.cons z (.cons z .nil)))))))))
       ·try simp only [Option.bind_assoc] at h
        try simp only [Option.bind_some] at h
        have fd := bd.st p z
        have fe := fd.st T z
        have ff := fe.st U z
        have fg := ff.st C z
        have fh := fg.st ae z
        refine WL.store (v := vi V) (cells' := [vi a.Scale, vu (a.Zero + d.Zero), vi V, Value.slice none 0 0, vi 0, Value.slice none 0 0]) ty3 z z fh z (le_ z) z z ?_
        intro kV bT fi
        refine nl (At.dq (su_ bT z) (WD.heavy 6 z (by kernel_rfl) ?_))
        obtain ⟨jt, fj, h⟩ := bnd h
        refine WL.make (O := aC) (R := Rep.u) (zx := (0 : UInt64)) 20 (by decide) ty26 ty25 z (by decide) (by decide) z z (fun _ _ => z) fj z ?_
        intro ju lV kW aS fk
        refine nl (At.dq (su_ aS z) (WD.y 10 z (by kernel_rfl) (fun _ _ _ => yn z) z (WD.y 11 z (by kernel_rfl) (fun _ _ _ => yf fo28_1 z) z ?_)))
        obtain ⟨jv, aT, fl⟩ := OwnSl.rlb 1001 rfl fk
        have fm := fi.st aS z
        have fn := fm.st aT z
        refine WD.own (su_ aT z) (WD.perm _ [11, 10, 9, 8, 7, 6, 5, 4, 3, 2, 1, 0] (by kernel_rfl) ?_)
        exact ck (jt, jv, ju) _ _ _ ⟨some1 h, (tr_ (su_ bT z) (tr_ (su_ aS z) (su_ aT z))), fn, fl, z⟩ (.cons z (.cons z (.cons z (.cons z (.cons z (.cons z (.cons z (.cons z (.cons z .nil)))))))))
      ·rintro ⟨bi, b2, jw⟩ _ kX ⟨rfl, ar, cl, bj, rfl⟩
       replace h := eY
       try dsimp only at h ar cl bj
       refine (show WD _ _ _ _ _ _ _ _ [(4, pt Q 0), (15, pt e 0), (17, pt bf 0), (18, vi V), (71, Value.slice (some ⟨j, 0, none⟩) 2 2), (72, vi 2), (73, vi 0), (96, jw), (100, pt e 3)] _ _ from ?_)
       refine WD.phase [16] [0, 1, 2, 3, 4, 5, 6, 7, 8, 9, 10, 11, 12] (by kernel_rfl) (by kernel_rfl) (WD.heavy 12 z (by kernel_rfl) ?_)
       have fo := h
       obtain ⟨aD, aE, aF, rfl⟩ := bj.shape
       have h := fo
       refine WL.store (v := (Value.slice aD aE aF)) (cells' := [vi a.Scale, vu (a.Zero + d.Zero), vi V, (Value.slice aD aE aF), vi 0, Value.slice none 0 0]) ty26 z z cl z (le_ z) z z ?_
       intro bk ao bl
       refine nl (At.dq (su_ ao z) (WD.done_ (by kernel_rfl) (th (sq (rg (wY (yf fo94_0 z) z ?_))))))
       have fp := aw.st C z
       have fq := fp.st ae z
       have fr := fq.st ar z
       have aL := fr.st ao z
       refine wY (yl ty93 z z (aL.cell 0 _ z)) z (wY (yn z) z (wY (yf fo28_1 z) z (wY (yl ty26 z z (bl.cell 3 _ z)) z ?_)))
       have cm := bj.st ao z z z
       refine wY (Y.len ty26 z cm.src.sl) z (wY (ym z) z (nl (th ?_)))
       obtain ⟨jx, h, fs⟩ := bnd h
       refine WC.join (σ := (List UInt64 × Own)) (fun x w' => x.1 = jx ∧ Stp [1001, 1002, 1003] b2 bk x.2 w' ∧ OwnSl 1005 Rep.u 25 x.2 w' (Value.slice aD aE aF) x.1) (fun x => [(4, pt Q 0), (15, pt e 0), (71, Value.slice (some ⟨j, 0, none⟩) 2 2), (72, vi 2), (73, vi 0)]) ?_ ?_
       ·refine WC.block ?_
        obtain ⟨c3, h, ft⟩ := flow1 h
        obtain ⟨c4, h⟩ := loop_some h
        refine WC.joinB 2 (σ := (List UInt64 × Own)) (fun x w' => c3 = .go x.1 ∧ Stp [1001, 1002] b2 bk x.2 w' ∧ OwnSl 1003 Rep.u 25 x.2 w' (Value.slice aD aE aF) x.1) (fun x => [(4, pt Q 0), (15, pt e 0), (71, Value.slice (some ⟨j, 0, none⟩) 2 2), (72, vi 2), (73, vi 0)]) ?_ ?_
        ·obtain ⟨jy, c5, fu⟩ := OwnSl.rlb 1002 rfl cm
         refine WC.loop (σ := (List UInt64 × Int × Own)) (fun x k w' => loopN k (fold_Merge_lp1 a d V bi) (x.1, x.2.1) = some c3 ∧ Stp [1001, 1002] b2 bk x.2.2 w' ∧ OwnSl 1002 Rep.u 25 x.2.2 w' (Value.slice aD aE aF) x.1) (fun x => [(4, pt Q 0), (15, pt e 0), (17, pt bf 0), (18, vi V), (71, Value.slice (some ⟨j, 0, none⟩) 2 2), (72, vi 2), (73, vi 0), (106, vi (bi.length : Int)), (107, vi x.2.1)]) (bi, 0, jy) c4 (.cons z (.cons z (.cons z (.cons z (.cons z (.cons z (.cons z (.cons z (.cons z .nil))))))))) ⟨h, (su_ c5 z), fu⟩ ?_
         rintro ⟨jz, bm, c6⟩ c4 kY ⟨h, W, bn⟩
         obtain ⟨jA, lW, rfl, h, cn⟩ := rnd1 h
         unfold fold_Merge_lp1 at h
         try dsimp only at h W bn
         refine (show WC _ _ _ _ [(4, pt Q 0), (15, pt e 0), (17, pt bf 0), (18, vi V), (71, Value.slice (some ⟨j, 0, none⟩) 2 2), (72, vi 2), (73, vi 0), (106, vi (bi.length : Int)), (107, vi bm)] _ from ?_)
         refine sq (rg (wY (Y.lss_i z z) z (nl (th (sq ?_)))))
         rcases cnd h with ⟨bo, h⟩ | ⟨bo, h⟩
         ·refine WC.condT' z bo (sk (th (sq (WC.block (sq (rg (wY (ym z) z (wY (ya z) z (nl ?_)))))))))
          refine th (WC.drawH [] [0, 1, 2, 3, 4, 5, 6, 7, 8, 9, 10, 11, 12, 13, 14, 15, 16, 17, 18, 19] c6 21 fmix z (by kernel_rfl) ?_)
          intro kZ af
          refine WD.y 0 z (by kernel_rfl) (fun _ _ _ => yf fo94_0 z) z (WD.y 1 z (by kernel_rfl) (fun k0 lX c7 => have fv := aL.st W z; have fw := fv.st af z; have fx := fw.st c7 z; yl ty93 z z (fx.cell 0 _ z)) z (WD.y 2 z (by kernel_rfl) (fun _ _ _ => yn z) z (WD.y 3 z (by kernel_rfl) (fun _ _ _ => yf fo28_1 z) z (WD.y 4 z (by kernel_rfl) (fun k1 lY c8 => have fy := bl.st W z; have fz := fy.st af z; have fA := fz.st c8 z; yl ty26 z z (fA.cell 3 _ z)) z (WD.y 5 z (by kernel_rfl) (fun _ _ _ => ym z) z (WD.y 6 z (by kernel_rfl) (fun _ _ _ => yf fo94_1 z) z (WD.y 7 z (by kernel_rfl) (fun k2 lZ c9 => have fB := aL.st W z; have fC := fB.st af z; have fD := fC.st c9 z; yL ty28 z z (fD.cells 1 [vi a.Pos.Offset, (Value.slice ak al am)] z) z) z (WD.y 8 z (by kernel_rfl) (fun _ _ _ => ym z) z (WD.y 9 z (by kernel_rfl) (fun _ _ _ => ym z) z ?_)))))))))
          refine WD.y 10 z (by kernel_rfl) (fun _ _ _ => Y.add_i z z) z (WD.y 12 z (by kernel_rfl) (fun _ _ _ => yf fo94_2 z) z (WD.y 13 z (by kernel_rfl) (fun k3 l0 da => have fF := aL.st W z; have fG := fF.st af z; have fH := fG.st da z; yL ty28 z z (fH.cells 3 [vi d.Pos.Offset, (Value.slice I J K)] z) z) z (WD.y 14 z (by kernel_rfl) (fun _ _ _ => ym z) z (WD.y 15 z (by kernel_rfl) (fun _ _ _ => ym z) z (WD.y 16 z (by kernel_rfl) (fun _ _ _ => Y.add_i z z) z (WD.heavy 11 z (by kernel_rfl) ?_))))))
          have fI := ci.f C z
          have fJ := fI.f ae z
          have fK := fJ.f ar z
          have fL := fK.f ao z
          have fN := fL.f W z
          have fO := fN.f af z
          obtain ⟨l1, fP, h⟩ := bnd h
          refine WL.call (vals := [ag [vi a.Pos.Offset, (Value.slice ak al am)], vi (w64 (V + bm))]) kok62 z z (c_hist_At (A := fun _ => True) (a0 := a.Pos) (Sl.all fO) fP) ?_
          rintro k4 k5 ⟨rfl, fQ⟩
          obtain ⟨jB, kd, ke, ax⟩ := adoptE c6 (fun k => 1) fQ
          refine nl (At.dq (su_ ax z) (WD.heavy 17 z (by kernel_rfl) ?_))
          have fR := cj.f C z
          have fT := fR.f ae z
          have fU := fT.f ar z
          have fV := fU.f ao z
          have fY := fV.f W z
          have f0 := fY.f af z
          have f1 := f0.f ax z
          obtain ⟨l2, f2, h⟩ := bnd h
          refine WL.call (vals := [ag [vi d.Pos.Offset, (Value.slice I J K)], vi (w64 (V + bm))]) kok62 z z (c_hist_At (A := fun _ => True) (a0 := d.Pos) (Sl.all f1) f2) ?_
          rintro k6 k7 ⟨rfl, f3⟩
          obtain ⟨jC, kf, kg, aU⟩ := adoptE jB (fun k => 1) f3
          refine nl (At.dq (su_ aU z) (WD.y 18 z (by kernel_rfl) (fun _ _ _ => Y.add_u z z) z ?_))
          obtain ⟨jD, f4, h⟩ := bnd h
          have f5 := bn.st af z z z
          have f6 := f5.st ax z z z
          have bp := f6.st aU z z z
          obtain ⟨l3, kB, k8, bq, f7, f8, br, db⟩ := OwnSl.at bp f4
          obtain rfl := db
          replace br : CellsAt _ _ _ [vu jD] := br
          have kC := CAt.own bp bq br
          refine WD.y 19 z (by kernel_rfl) (fun _ _ _ => Y.indexAddr ty26 ty25 z bq z f7 f8) z (WD.phase [1002] [0, 1, 2, 3, 4, 5, 6, 7, 8, 9, 10, 11, 12, 13, 14, 15, 16, 17, 18, 19, 20] (by kernel_rfl) (by kernel_rfl) (WD.heavy 20 z (by kernel_rfl) ?_))
          obtain ⟨l4, f9, h⟩ := lt1 h
          refine WL.ren 128 z (congrArg vu f9.symm) ?_
          obtain ⟨ga, dc, h⟩ := bnd h
          refine WL.storeOwn (by decide) ty25 z z z bp bq dc ?_
          intro k9 bU gb
          refine nl (At.dq (su_ bU z) (WD.done_ (by kernel_rfl) (At.inBlock (th (rg (wY (Y.add_i z z) z (wY (ym z) z (nl ?_))))))))
          exact At.round (ga, w64 (bm + 1), jC) jA (Nat.lt_succ_self _) ⟨next1 h cn, (tr_ (su_ W z) (tr_ (su_ af z) (tr_ (su_ ax z) (tr_ (su_ aU z) (su_ bU z))))), gb⟩ (.cons z (.cons z (.cons z (.cons z (.cons z (.cons z (.cons z (.cons z (.cons z .nil)))))))))
         ·refine WC.condF' z bo (WC.exit (At.thenX (At.loopX ?_)))
          obtain ⟨jE, dd, gc⟩ := OwnSl.rlb 1003 rfl bn
          exact At.hitB (σ := (List UInt64 × Own)) (jz, jE) ⟨brk1 h cn, (tr_ (su_ W z) (su_ dd z)), gc⟩ (.cons z (.cons z (.cons z (.cons z (.cons z .nil)))))
        ·rintro ⟨jF, l5⟩ la ⟨rfl, bW, co⟩
         replace h := flowK_go ft
         try dsimp only at h bW co
         refine (show At _ _ _ [(4, pt Q 0), (15, pt e 0), (71, Value.slice (some ⟨j, 0, none⟩) 2 2), (72, vi 2), (73, vi 0)] _ from ?_)
         refine At.inBlockHit ?_
         obtain ⟨jG, de, gd⟩ := OwnSl.rlb 1005 rfl co
         exact At.join (σ := (List UInt64 × Own)) (jF, jG) ⟨some1 h, (tr_ (su_ bW z) (su_ de z)), gd⟩ (.cons z (.cons z (.cons z (.cons z (.cons z .nil)))))
       ·rintro ⟨jH, l6⟩ lb ⟨rfl, aW, cp⟩
        replace h := fs
        try dsimp only at h aW cp
        refine (show At _ _ _ [(4, pt Q 0), (15, pt e 0), (71, Value.slice (some ⟨j, 0, none⟩) 2 2), (72, vi 2), (73, vi 0)] _ from ?_)
        refine At.inBlock ?_
        obtain ⟨jI, bX, ge⟩ := OwnSl.rlb 1008 rfl cp
        have gf := bl.st aW z
        have gg := gf.st bX z
        exact At.join (σ := (Int × List UInt64 × Own × Value)) (V, jH, jI, (Value.slice aD aE aF)) ⟨go2 h, (tr_ (su_ T z) (tr_ (su_ U z) (tr_ (su_ C z) (tr_ (su_ ae z) (tr_ (su_ ar z) (tr_ (su_ ao z) (tr_ (su_ aW z) (su_ bX z)))))))), ge, gg⟩ (.cons z (.cons z (.cons z (.cons z (.cons z .nil)))))
   ·rintro ⟨aq, l7, df, aG⟩ gh ⟨rfl, ah, cq, aM⟩
    replace h := flowK_go ch
    try dsimp only at h ah cq aM
    refine (show At _ _ _ [(4, pt Q 0), (15, pt e 0), (71, Value.slice (some ⟨j, 0, none⟩) 2 2), (72, vi 2), (73, vi 0)] _ from ?_)
    refine th (rg (WL.yE (Y.add_i z z) (congrArg vi (by decide : w64 (0 + 1) = 1)) z (wY (ym z) z (nl (At.again (sq (rg (WL.yE (Y.lss_i z z) (congrArg vB (by decide : decide ((1 : Int) < (2 : Int)) = true)) z (nl ?_)))))))))
    refine th (sq (WC.condT z (sk (th (sq ?_)))))
    obtain ⟨jJ, h, cr⟩ := flow1 h
    refine WC.join (σ := (Int × List UInt64 × Own × Value)) (fun x w' => jJ = .go (x.1, x.2.1) ∧ Stp [16, 21, 22, 23, 1010, 1011, 1012, 1014] df gh x.2.2.1 w' ∧ OwnSl 1017 Rep.u 25 x.2.2.1 w' x.2.2.2 x.2.1 ∧ Blk 16 x.2.2.1 w' e 30 [vi a.Scale, vu (a.Zero + d.Zero), vi aq, aG, vi x.1, x.2.2.2]) (fun x => [(4, pt Q 0), (15, pt e 0), (71, Value.slice (some ⟨j, 0, none⟩) 2 2), (72, vi 2), (73, vi 1)]) ?_ ?_
    ·refine WC.block (sq (rg (WL.yE (Y.indexAddr ty95 ty94 z z z (by decide) (by decide)) (show (Value.pointer (some ⟨j, 0 + (1 : Int).toNat * 5, none⟩)) = .pointer (some ⟨j, 5, none⟩) from z) z ?_)))
     have gi := cg.st ah z
     refine wY (yL ty94 z z (gi.cells 5 [pt e 4, vi a.Neg.Offset, (Value.slice F G H), vi d.Neg.Offset, (Value.slice L M P)] z) z) z (WL.alloc (O := df) 21 [Value.pointer none, vi 0, Value.slice none 0 0, vi 0, Value.slice none 0 0] ty94 z z ?_)
     intro bs jK lc X gj
     refine WL.store (v := ag [pt e 4, vi a.Neg.Offset, (Value.slice F G H), vi d.Neg.Offset, (Value.slice L M P)]) (cells' := [pt e 4, vi a.Neg.Offset, (Value.slice F G H), vi d.Neg.Offset, (Value.slice L M P)]) ty94 z z gj z (le_ z) z z ?_
     intro ld Z ay
     refine nl (th (sq (rg (wY (yf fo94_1 z) z (wY (yL ty28 z z (ay.cells 1 [vi a.Neg.Offset, (Value.slice F G H)] z) z) z (wY (yf fo94_2 z) z (wY (yL ty28 z z (ay.cells 3 [vi d.Neg.Offset, (Value.slice L M P)] z) z) z ?_)))))))
     have gk := b9.f n z
     have gl := gk.f o z
     have gm := gl.f r z
     have gn := gm.f t z
     have gp := gn.f p z
     have gq := gp.f ah z
     have gr := gq.f X z
     have cs := gr.f Z z
     have gs := cc.f o z
     have gt := gs.f r z
     have gu := gt.f t z
     have gw := gu.f p z
     have gz := gw.f ah z
     have gB := gz.f X z
     have ct := gB.f Z z
     obtain ⟨⟨aa, l8⟩, gC, h⟩ := bnd h
     refine WL.call (vals := [ag [vi a.Neg.Offset, (Value.slice F G H)], ag [vi d.Neg.Offset, (Value.slice L M P)]]) kok61 z z (c_fold_cover (A := fun _ => True) (a0 := a.Neg) (a1 := d.Neg) (Sl.all cs) (Sl.all ct) gC) ?_
     rintro lf lg ⟨rfl, gE⟩
     obtain ⟨aH, kh, ki, D⟩ := adoptE jK (fun k => 1) gE
     refine wY (ym z) z (wY (yx z z) z (wY (yx z z) z (wY (ya z) z (wY (ya z) z (nl (th (sq (sq (rg ?_)))))))))
     refine wY (ym z) z (wY (Y.gtr_i z z) z (nl (th ?_)))
     rcases cnd h with ⟨bt, h⟩ | ⟨bt, h⟩
     ·refine WC.condT' z bt (sq (rg (wY (yb (vals := []) (cells := [vi 0, vu 0, vi 0, Value.slice none 0 0, vi 0, Value.slice none 0 0]) (fe_ z) (by kernel_rfl)) z ?_)))
      have gG := aO.st ad z
      have gH := gG.st E z
      have gI := gH.st q z
      have gJ := gI.st l z
      have gK := gJ.st m z
      have gL := gK.st n z
      have gM := gL.st o z
      have gO := gM.st r z
      have gP := gO.st t z
      have gQ := gP.st p z
      have gR := gQ.st ah z
      have gU := gR.st X z
      have gV := gU.st Z z
      have gW := gV.st D z
      refine WL.store (v := ag [vi 0, vu 0, vi 0, Value.slice none 0 0, vi 0, Value.slice none 0 0]) (cells' := [vi 0, vu 0, vi 0, Value.slice none 0 0, vi 0, Value.slice none 0 0]) ty30 z z gW z (le_ z) z z ?_
      intro gX dg gY
      refine wY (ya z) z (nl (th (rt (At.thenR (At.inBlockR ?_)))))
      have h := outs1 h cr
      refine At.joinR (At.thenR (At.thenR (At.inBlockR (At.thenR ?_))))
      obtain ⟨rfl, rfl⟩ := tup2 h
      have gZ : Stp [13, 14, 15, 16, 18, 19, 20, 21, 1001, 1002, 1003, 1005] (Lg.O0 A) w aH gX := (tr_ (su_ an z) (tr_ (su_ ac z) (tr_ (su_ S z) (tr_ (su_ ad z) (tr_ (su_ E z) (tr_ (su_ q z) (tr_ (su_ l z) (tr_ (su_ m z) (tr_ (su_ n z) (tr_ (su_ o z) (tr_ (su_ r z) (tr_ (su_ t z) (tr_ (su_ p z) (tr_ (su_ ah z) (tr_ (su_ X z) (tr_ (su_ Z z) (tr_ (su_ D z) (su_ dg z))))))))))))))))))
      exact At.res (.inl z) z (.cell z (gY.runAg 0 [vi 0, vu 0, vi 0, Value.slice none 0 0, vi 0, Value.slice none 0 0] ty30 z z z) (.tmp z .nil)) ⟨Value.slice none 0 0, Value.slice none 0 0, z, (se_ gZ z z), (Or.inl ⟨z, z⟩), (Or.inl ⟨z, z⟩)⟩
     ·refine WC.condF' z bt (sk (th (sq (sq (rg (wY (ym z) z (wY (Y.eql_i z z) z (nl (th ?_)))))))))
      rcases cnd h with ⟨bu, h⟩ | ⟨bu, h⟩
      ·refine WC.condT' z bu (WC.exit (At.thenX (At.inBlockHit ?_)))
       have g0 := aM.st X z
       have g1 := g0.st Z z
       have g2 := g1.st D z
       exact At.join (σ := (Int × List UInt64 × Own × Value)) (0, [], aH, Value.slice none 0 0) ⟨go2 h, (tr_ (su_ X z) (tr_ (su_ Z z) (su_ D z))), (OwnSl.nil 1017 Rep.u 25), g2⟩ (.cons z (.cons z (.cons z (.cons z (.cons z .nil)))))
      ·refine WC.condF' z bu (sk (th (sq (WC.drawH [16, 22, 23] [0, 1, 2, 3, 4, 5, 6, 7, 8, 9, 10, 11] aH 13 fmix z (by kernel_rfl) ?_))))
       intro g3 ai
       refine WD.y 0 z (by kernel_rfl) (fun _ _ _ => yf fo94_0 z) z (WD.y 1 z (by kernel_rfl) (fun lh l9 dh => have g4 := ay.st D z; have g5 := g4.st ai z; have g6 := g5.st dh z; yl ty93 z z (g6.cell 0 _ z)) z (WD.y 2 z (by kernel_rfl) (fun _ _ _ => yf fo94_0 z) z (WD.y 3 z (by kernel_rfl) (fun li ma di => have g7 := ay.st D z; have g8 := g7.st ai z; have g9 := g8.st di z; yl ty93 z z (g9.cell 0 _ z)) z (WD.y 4 z (by kernel_rfl) (fun _ _ _ => ym z) z (WD.y 5 z (by kernel_rfl) (fun _ _ _ => ym z) z (WD.y 7 z (by kernel_rfl) (fun _ _ _ => yn z) z (WD.y 8 z (by kernel_rfl) (fun _ _ _ => yf fo28_0 z) z ?_)))))))
       obtain ⟨jL, h, ha⟩ := bnd h
       refine WD.join (σ := (List UInt64 × Own × Value)) (f' := 1) [11, 10, 9, 8, 7, 6, 5, 4, 3, 2, 1, 0] (fun x O' w' => x.1 = jL ∧ Stp [16, 22, 23] aH g3 x.2.1 w' ∧ Blk 16 x.2.1 w' e 30 [vi a.Scale, vu (a.Zero + d.Zero), vi aq, aG, vi aa, Value.slice none 0 0] ∧ OwnSl 1010 Rep.u 25 x.2.1 w' x.2.2 x.1 ∧ x.2.1 = O') (fun x => [(4, pt Q 0), (15, pt e 0), (17, pt bs 0), (18, vi aa), (71, Value.slice (some ⟨j, 0, none⟩) 2 2), (72, vi 2), (73, vi 1), (96, x.2.2), (100, pt e 5)]) (fun cu => ?_) ?_
       ·refine WD.heavy2 6 9 z z (by kernel_rfl) ?_ ?_
        ·obtain ⟨jM, hc, h⟩ := bnd h
         refine WL.make (O := aH) (R := Rep.u) (zx := (0 : UInt64)) 22 (by decide) ty26 ty25 z (by decide) (by decide) z z (fun _ _ => z) hc z ?_
         intro jN mb lj aX hd
         refine nl (At.dq (su_ aX z) (WD.heavy 9 z (by kernel_rfl) ?_))
         have he := aM.st X z
         have hf := he.st Z z
         have hg := hf.st D z
         have hh := hg.st ai z
         have hi := hh.st aX z
         refine WL.store (v := vi aa) (cells' := [vi a.Scale, vu (a.Zero + d.Zero), vi aq, aG, vi aa, Value.slice none 0 0]) ty3 z z hi z (le_ z) z z ?_
         intro ll aY hj
         refine nl (At.dq (su_ aY z) (WD.y 10 z (by kernel_rfl) (fun _ _ _ => yn z) z (WD.y 11 z (by kernel_rfl) (fun _ _ _ => yf fo28_1 z) z ?_)))
         have hl := hd.st aY z z z
         obtain ⟨jO, aZ, hm⟩ := OwnSl.rlb 1010 rfl hl
         have hn := hj.st aZ z
         refine WD.own (su_ aZ z) (WD.perm _ [11, 10, 9, 8, 7, 6, 5, 4, 3, 2, 1, 0] (by kernel_rfl) ?_)
         exact cu (jM, jO, jN) _ _ _ ⟨some1 h, (tr_ (su_ aX z) (tr_ (su_ aY z) (su_ aZ z))), hn, hm, z⟩ (.cons z (.cons z (.cons z (.cons z (.cons z (.cons z (.cons z (.cons z (.cons z .nil)))))))))
        ·try simp only [Option.bind_assoc] at h
         try simp only [Option.bind_some] at h
         have ho := aM.st X z
         have hp := ho.st Z z
         have hq := hp.st D z
         have hr := hq.st ai z
         refine WL.store (v := vi aa) (cells' := [vi a.Scale, vu (a.Zero + d.Zero), vi aq, aG, vi aa, Value.slice none 0 0]) ty3 z z hr z (le_ z) z z ?_
         intro lm bY hs
         refine nl (At.dq (su_ bY z) (WD.heavy 6 z (by kernel_rfl) ?_))
         obtain ⟨jP, ht, h⟩ := bnd h
         refine WL.make (O := aH) (R := Rep.u) (zx := (0 : UInt64)) 23 (by decide) ty26 ty25 z (by decide) (by decide) z z (fun _ _ => z) ht z ?_
         intro jQ mc ln a2 hu
         refine nl (At.dq (su_ a2 z) (WD.y 10 z (by kernel_rfl) (fun _ _ _ => yn z) z (WD.y 11 z (by kernel_rfl) (fun _ _ _ => yf fo28_1 z) z ?_)))
         obtain ⟨jR, a3, hv⟩ := OwnSl.rlb 1010 rfl hu
         have hw := hs.st a2 z
         have hx := hw.st a3 z
         refine WD.own (su_ a3 z) (WD.perm _ [11, 10, 9, 8, 7, 6, 5, 4, 3, 2, 1, 0] (by kernel_rfl) ?_)
         exact cu (jP, jR, jQ) _ _ _ ⟨some1 h, (tr_ (su_ bY z) (tr_ (su_ a2 z) (su_ a3 z))), hx, hv, z⟩ (.cons z (.cons z (.cons z (.cons z (.cons z (.cons z (.cons z (.cons z (.cons z .nil)))))))))
       ·rintro ⟨bw, b3, jS⟩ _ lo ⟨rfl, au, cv, bx, rfl⟩
        replace h := ha
        try dsimp only at h au cv bx
        refine (show WD _ _ _ _ _ _ _ _ [(4, pt Q 0), (15, pt e 0), (17, pt bs 0), (18, vi aa), (71, Value.slice (some ⟨j, 0, none⟩) 2 2), (72, vi 2), (73, vi 1), (96, jS), (100, pt e 5)] _ _ from ?_)
        refine WD.phase [16] [0, 1, 2, 3, 4, 5, 6, 7, 8, 9, 10, 11, 12] (by kernel_rfl) (by kernel_rfl) (WD.heavy 12 z (by kernel_rfl) ?_)
        have hy := h
        obtain ⟨aI, aJ, aK, rfl⟩ := bx.shape
        have h := hy
        refine WL.store (v := (Value.slice aI aJ aK)) (cells' := [vi a.Scale, vu (a.Zero + d.Zero), vi aq, aG, vi aa, (Value.slice aI aJ aK)]) ty26 z z cv z (le_ z) z z ?_
        intro bz ap bA
        refine nl (At.dq (su_ ap z) (WD.done_ (by kernel_rfl) (th (sq (rg (wY (yf fo94_0 z) z ?_))))))
        have hz := ay.st D z
        have hA := hz.st ai z
        have hC := hA.st au z
        have aN := hC.st ap z
        refine wY (yl ty93 z z (aN.cell 0 _ z)) z (wY (yn z) z (wY (yf fo28_1 z) z (wY (yl ty26 z z (bA.cell 5 _ z)) z ?_)))
        have cw := bx.st ap z z z
        refine wY (Y.len ty26 z cw.src.sl) z (wY (ym z) z (nl (th ?_)))
        obtain ⟨jT, h, hD⟩ := bnd h
        refine WC.join (σ := (List UInt64 × Own)) (fun x w' => x.1 = jT ∧ Stp [1010, 1011, 1012] b3 bz x.2 w' ∧ OwnSl 1014 Rep.u 25 x.2 w' (Value.slice aI aJ aK) x.1) (fun x => [(4, pt Q 0), (15, pt e 0), (71, Value.slice (some ⟨j, 0, none⟩) 2 2), (72, vi 2), (73, vi 1)]) ?_ ?_
        ·refine WC.block ?_
         obtain ⟨dj, h, hE⟩ := flow1 h
         obtain ⟨dk, h⟩ := loop_some h
         refine WC.joinB 2 (σ := (List UInt64 × Own)) (fun x w' => dj = .go x.1 ∧ Stp [1010, 1011] b3 bz x.2 w' ∧ OwnSl 1012 Rep.u 25 x.2 w' (Value.slice aI aJ aK) x.1) (fun x => [(4, pt Q 0), (15, pt e 0), (71, Value.slice (some ⟨j, 0, none⟩) 2 2), (72, vi 2), (73, vi 1)]) ?_ ?_
         ·obtain ⟨jU, dl, hF⟩ := OwnSl.rlb 1011 rfl cw
          refine WC.loop (σ := (List UInt64 × Int × Own)) (fun x k w' => loopN k (fold_Merge_lp2 a d aa bw) (x.1, x.2.1) = some dj ∧ Stp [1010, 1011] b3 bz x.2.2 w' ∧ OwnSl 1011 Rep.u 25 x.2.2 w' (Value.slice aI aJ aK) x.1) (fun x => [(4, pt Q 0), (15, pt e 0), (17, pt bs 0), (18, vi aa), (71, Value.slice (some ⟨j, 0, none⟩) 2 2), (72, vi 2), (73, vi 1), (106, vi (bw.length : Int)), (107, vi x.2.1)]) (bw, 0, jU) dk (.cons z (.cons z (.cons z (.cons z (.cons z (.cons z (.cons z (.cons z (.cons z .nil))))))))) ⟨h, (su_ dl z), hF⟩ ?_
          rintro ⟨jV, bB, dm⟩ dk lp ⟨h, ab, bC⟩
          obtain ⟨jW, md, rfl, h, cx⟩ := rnd1 h
          unfold fold_Merge_lp2 at h
          try dsimp only at h ab bC
          refine (show WC _ _ _ _ [(4, pt Q 0), (15, pt e 0), (17, pt bs 0), (18, vi aa), (71, Value.slice (some ⟨j, 0, none⟩) 2 2), (72, vi 2), (73, vi 1), (106, vi (bw.length : Int)), (107, vi bB)] _ from ?_)
          refine sq (rg (wY (Y.lss_i z z) z (nl (th (sq ?_)))))
          rcases cnd h with ⟨bD, h⟩ | ⟨bD, h⟩
          ·refine WC.condT' z bD (sk (th (sq (WC.block (sq (rg (wY (ym z) z (wY (ya z) z (nl ?_)))))))))
           refine th (WC.drawH [] [0, 1, 2, 3, 4, 5, 6, 7, 8, 9, 10, 11, 12, 13, 14, 15, 16, 17, 18, 19] dm 21 fmix z (by kernel_rfl) ?_)
           intro lq aj
           refine WD.y 0 z (by kernel_rfl) (fun _ _ _ => yf fo94_0 z) z (WD.y 1 z (by kernel_rfl) (fun lr me dn => have hG := aN.st ab z; have hH := hG.st aj z; have hI := hH.st dn z; yl ty93 z z (hI.cell 0 _ z)) z (WD.y 2 z (by kernel_rfl) (fun _ _ _ => yn z) z (WD.y 3 z (by kernel_rfl) (fun _ _ _ => yf fo28_1 z) z (WD.y 4 z (by kernel_rfl) (fun ls mf dp => have hJ := bA.st ab z; have hK := hJ.st aj z; have hL := hK.st dp z; yl ty26 z z (hL.cell 5 _ z)) z (WD.y 5 z (by kernel_rfl) (fun _ _ _ => ym z) z (WD.y 6 z (by kernel_rfl) (fun _ _ _ => yf fo94_1 z) z (WD.y 7 z (by kernel_rfl) (fun lu mg dr => have hM := aN.st ab z; have hN := hM.st aj z; have hO := hN.st dr z; yL ty28 z z (hO.cells 1 [vi a.Neg.Offset, (Value.slice F G H)] z) z) z (WD.y 8 z (by kernel_rfl) (fun _ _ _ => ym z) z (WD.y 9 z (by kernel_rfl) (fun _ _ _ => ym z) z ?_)))))))))
           refine WD.y 10 z (by kernel_rfl) (fun _ _ _ => Y.add_i z z) z (WD.y 12 z (by kernel_rfl) (fun _ _ _ => yf fo94_2 z) z (WD.y 13 z (by kernel_rfl) (fun lv mh ds => have hP := aN.st ab z; have hQ := hP.st aj z; have hR := hQ.st ds z; yL ty28 z z (hR.cells 3 [vi d.Neg.Offset, (Value.slice L M P)] z) z) z (WD.y 14 z (by kernel_rfl) (fun _ _ _ => ym z) z (WD.y 15 z (by kernel_rfl) (fun _ _ _ => ym z) z (WD.y 16 z (by kernel_rfl) (fun _ _ _ => Y.add_i z z) z (WD.heavy 11 z (by kernel_rfl) ?_))))))
           have hS := cs.f D z
           have hT := hS.f ai z
           have hU := hT.f au z
           have hV := hU.f ap z
           have hW := hV.f ab z
           have hX := hW.f aj z
           obtain ⟨mi, hY, h⟩ := bnd h
           refine WL.call (vals := [ag [vi a.Neg.Offset, (Value.slice F G H)], vi (w64 (aa + bB))]) kok62 z z (c_hist_At (A := fun _ => True) (a0 := a.Neg) (Sl.all hX) hY) ?_
           rintro lw lx ⟨rfl, hZ⟩
           obtain ⟨jX, kj, kk, az⟩ := adoptE dm (fun k => 1) hZ
           refine nl (At.dq (su_ az z) (WD.heavy 17 z (by kernel_rfl) ?_))
           have h0 := ct.f D z
           have h1 := h0.f ai z
           have h2 := h1.f au z
           have h3 := h2.f ap z
           have h4 := h3.f ab z
           have h5 := h4.f aj z
           have h6 := h5.f az z
           obtain ⟨mj, h7, h⟩ := bnd h
           refine WL.call (vals := [ag [vi d.Neg.Offset, (Value.slice L M P)], vi (w64 (aa + bB))]) kok62 z z (c_hist_At (A := fun _ => True) (a0 := d.Neg) (Sl.all h6) h7) ?_
           rintro ly lA ⟨rfl, h8⟩
           obtain ⟨jY, km, kn, a4⟩ := adoptE jX (fun k => 1) h8
           refine nl (At.dq (su_ a4 z) (WD.y 18 z (by kernel_rfl) (fun _ _ _ => Y.add_u z z) z ?_))
           obtain ⟨jZ, h9, h⟩ := bnd h
           have ia := bC.st aj z z z
           have ib := ia.st az z z z
           have bE := ib.st a4 z z z
           obtain ⟨ml, kD, lB, bF, ic, ie, bG, dt⟩ := OwnSl.at bE h9
           obtain rfl := dt
           replace bG : CellsAt _ _ _ [vu jZ] := bG
           have kE := CAt.own bE bF bG
           refine WD.y 19 z (by kernel_rfl) (fun _ _ _ => Y.indexAddr ty26 ty25 z bF z ic ie) z (WD.phase [1011] [0, 1, 2, 3, 4, 5, 6, 7, 8, 9, 10, 11, 12, 13, 14, 15, 16, 17, 18, 19, 20] (by kernel_rfl) (by kernel_rfl) (WD.heavy 20 z (by kernel_rfl) ?_))
           obtain ⟨mm, ig, h⟩ := lt1 h
           refine WL.ren 128 z (congrArg vu ig.symm) ?_
           obtain ⟨ih, du, h⟩ := bnd h
           refine WL.storeOwn (by decide) ty25 z z z bE bF du ?_
           intro lC bZ ii
           refine nl (At.dq (su_ bZ z) (WD.done_ (by kernel_rfl) (At.inBlock (th (rg (wY (Y.add_i z z) z (wY (ym z) z (nl ?_))))))))
           exact At.round (ih, w64 (bB + 1), jY) jW (Nat.lt_succ_self _) ⟨next1 h cx, (tr_ (su_ ab z) (tr_ (su_ aj z) (tr_ (su_ az z) (tr_ (su_ a4 z) (su_ bZ z))))), ii⟩ (.cons z (.cons z (.cons z (.cons z (.cons z (.cons z (.cons z (.cons z (.cons z .nil)))))))))
          ·refine WC.condF' z bD (WC.exit (At.thenX (At.loopX ?_)))
           obtain ⟨j0, dw, ij⟩ := OwnSl.rlb 1012 rfl bC
           exact At.hitB (σ := (List UInt64 × Own)) (jV, j0) ⟨brk1 h cx, (tr_ (su_ ab z) (su_ dw z)), ij⟩ (.cons z (.cons z (.cons z (.cons z (.cons z .nil)))))
         ·rintro ⟨j1, mn⟩ lD ⟨rfl, b0, cy⟩
          replace h := flowK_go hE
          try dsimp only at h b0 cy
          refine (show At _ _ _ [(4, pt Q 0), (15, pt e 0), (71, Value.slice (some ⟨j, 0, none⟩) 2 2), (72, vi 2), (73, vi 1)] _ from ?_)
          refine At.inBlockHit ?_
          obtain ⟨j2, dx, ik⟩ := OwnSl.rlb 1014 rfl cy
          exact At.join (σ := (List UInt64 × Own)) (j1, j2) ⟨some1 h, (tr_ (su_ b0 z) (su_ dx z)), ik⟩ (.cons z (.cons z (.cons z (.cons z (.cons z .nil)))))
        ·rintro ⟨j3, mo⟩ lE ⟨rfl, a5, cz⟩
         replace h := hD
         try dsimp only at h a5 cz
         refine (show At _ _ _ [(4, pt Q 0), (15, pt e 0), (71, Value.slice (some ⟨j, 0, none⟩) 2 2), (72, vi 2), (73, vi 1)] _ from ?_)
         refine At.inBlock ?_
         obtain ⟨j4, b1, il⟩ := OwnSl.rlb 1017 rfl cz
         have im := bA.st a5 z
         have io := im.st b1 z
         exact At.join (σ := (Int × List UInt64 × Own × Value)) (aa, j3, j4, (Value.slice aI aJ aK)) ⟨go2 h, (tr_ (su_ X z) (tr_ (su_ Z z) (tr_ (su_ D z) (tr_ (su_ ai z) (tr_ (su_ au z) (tr_ (su_ ap z) (tr_ (su_ a5 z) (su_ b1 z)))))))), il, io⟩ (.cons z (.cons z (.cons z (.cons z (.cons z .nil)))))
    ·rintro ⟨bH, mp, mq, j5⟩ lF ⟨rfl, aA, bI, cA⟩
     replace h := flowK_go cr
     try dsimp only at h aA bI cA
     refine (show At _ _ _ [(4, pt Q 0), (15, pt e 0), (71, Value.slice (some ⟨j, 0, none⟩) 2 2), (72, vi 2), (73, vi 1)] _ from ?_)
     refine th (rg (WL.yE (Y.add_i z z) (congrArg vi (by decide : w64 (1 + 1) = 2)) z (wY (ym z) z (nl (At.again (sq (rg (WL.yE (Y.lss_i z z) (congrArg vB (by decide : decide ((2 : Int) < (2 : Int)) = false)) z (nl ?_)))))))))
     refine th (sq (WC.condF z (WC.exit (At.thenX (At.thenX (At.inBlockHit (th (sq (rg ?_)))))))))
     refine wY (yL ty30 z z (cA.cells 0 [vi a.Scale, vu (a.Zero + d.Zero), vi aq, aG, vi bH, j5] z) z) z ?_
     have cC := cq.st aA z z z
     have ip := h
     obtain ⟨bJ, bK, bL, rfl⟩ := cC.shape
     have h := ip
     have iq := h
     obtain ⟨bM, bO, bP, rfl⟩ := bI.shape
     have h := iq
     have ir := aO.st ad z
     have it := ir.st E z
     have iu := it.st q z
     have iv := iu.st l z
     have iw := iv.st m z
     have ix := iw.st n z
     have iy := ix.st o z
     have iz := iy.st r z
     have iA := iz.st t z
     have iB := iA.st p z
     have iC := iB.st ah z
     have iD := iC.st aA z
     refine WL.store (v := ag [vi a.Scale, vu (a.Zero + d.Zero), vi aq, (Value.slice bJ bK bL), vi bH, (Value.slice bM bO bP)]) (cells' := [vi a.Scale, vu (a.Zero + d.Zero), vi aq, (Value.slice bJ bK bL), vi bH, (Value.slice bM bO bP)]) ty30 z z iD z (le_ z) z z ?_
     intro iE a6 iF
     refine wY (ya z) z (nl (th (rt ?_)))
     obtain ⟨rfl, rfl⟩ := tup2 h
     have iG := cC.st a6 z z z
     obtain ⟨mr, a7, iH⟩ := OwnSl.giveF rfl Flat.u iG
     have iI := bI.st a6 z z z
     have iJ := iI.st a7 z z z
     obtain ⟨j6, a8, iK⟩ := OwnSl.giveF rfl Flat.u iJ
     have bQ : Stp [13, 14, 15, 16, 18, 19, 20, 21, 22, 23, 1001, 1002, 1003, 1005, 1008, 1010, 1011, 1012, 1014, 1017] (Lg.O0 A) w j6 iE := (tr_ (su_ an z) (tr_ (su_ ac z) (tr_ (su_ S z) (tr_ (su_ ad z) (tr_ (su_ E z) (tr_ (su_ q z) (tr_ (su_ l z) (tr_ (su_ m z) (tr_ (su_ n z) (tr_ (su_ o z) (tr_ (su_ r z) (tr_ (su_ t z) (tr_ (su_ p z) (tr_ (su_ ah z) (tr_ (su_ aA z) (tr_ (su_ a6 z) (tr_ (su_ a7 z) (su_ a8 z))))))))))))))))))
     have iL := iH.f a8 z
     have iM := iF.st a7 z
     have iN := iM.st a8 z
     exact At.res (.inl z) z (.cell z (iN.runAg 0 [vi a.Scale, vu (a.Zero + d.Zero), vi aq, (Value.slice bJ bK bL), vi bH, (Value.slice bM bO bP)] ty30 z z z) (.tmp z .nil)) ⟨(Value.slice bJ bK bL), (Value.slice bM bO bP), z, (se_ bQ z z), (Sl.outF iL bQ low0), (Sl.outF iK bQ low0)⟩
theorem c_law15_TodeltaHists {A : Nat → Prop} {a0 : List api_Point} {v0 : Value} {a1 : Int} {w : World} (hs0 : Sl rep_api_Point w A v0 a0) {r0 : Bool} (h : law15_TodeltaHists a0 a1 = some r0) : Rets Try.prog 9 [v0, vi a1] w (fun v w' => v = vB r0 ∧ Ext w w') := by
 unfold law15_TodeltaHists at h
 refine Rets.enter Try.func9 z z ?_
 have gw : Sl rep_api_Point w (imm (Lg.O0 A)) v0 a0 := (Sl.start hs0)
 refine (show WC _ _ _ _ [(0, v0), (1, vi a1)] _ from ?_)
 refine sq (rg (wY (ya z) z (nl (th (sq (sq (rg ?_)))))))
 obtain ⟨jU, gz, h⟩ := bnd h
 refine WL.call (vals := []) kok11 z z (c_law15_awake gz) ?_
 rintro jx gB ⟨rfl, gC⟩
 obtain ⟨gu, ip, iq, X⟩ := adoptE (Lg.O0 A) (fun k => 1) gC
 refine wY (Y.not z) z (nl (th ?_))
 rcases cnd h with ⟨bL, h⟩ | ⟨bL, h⟩
 ·refine WC.condT' z bL (sq (rg (wY (ya z) z (nl (th (rt (At.thenR ?_)))))))
  obtain rfl := some1 h
  have gE : Stp [] (Lg.O0 A) w gu gB := (su_ X z)
  exact At.res (.inl z) z (.tmp z .nil) ⟨z, (se_ gE z z)⟩
 ·refine WC.condF' z bL (sk (th (sq (sq (rg (wY (ym z) z ?_))))))
  have aL := gw.i X z z
  obtain ⟨ca, gG, h⟩ := bnd h
  refine WL.call (vals := [v0]) kok12 z z (c_law15_one (A := fun _ => True) (Sl.all aL) gG) ?_
  rintro jy bM ⟨rfl, gH⟩
  obtain ⟨bF, ir, it, M⟩ := adoptE gu (fun k => 1) gH
  refine wY (Y.not z) z (wY (ym z) z ?_)
  refine WL.cut 4 (σ := Unit) (fun _ w' => bM = w') (fun _ => [(0, v0), (1, vi a1), (26, vB ((!ca) || (decide ((a0.length : Int) = 0))))]) ?_ ?_
  ·refine WL.part 22 z (fun bO => ?_) (fun bO => ?_)
   ·refine WL.gS z z z z (WL.gS z z z z (WL.gS z z z z (wY (Y.pick (b := true) z z) z (WL.ren (v' := vB ((!ca) || (decide ((a0.length : Int) = 0)))) 26 z (congrArg vB (orT bO)) ?_))))
    exact nl (At.join () z (.cons z (.cons z (.cons z .nil))))
   ·refine ug z z (wY (ym z) z (ug z z ?_))
    have gI := aL.i M z z
    refine wY (Y.len ty22 z gI) z (ug z z (wY (Y.eql_i z z) z (wY (Y.pick (b := false) z z) z (WL.ren (v' := vB ((!ca) || (decide ((a0.length : Int) = 0)))) 26 z (congrArg vB (orF bO)) ?_))))
    exact nl (At.join () z (.cons z (.cons z (.cons z .nil))))
  ·rintro _ _ rfl
   refine (show WL _ _ _ _ _ [(0, v0), (1, vi a1), (26, vB ((!ca) || (decide ((a0.length : Int) = 0))))] _ from ?_)
   refine wY (ym z) z ?_
   obtain ⟨iu, h, gJ⟩ := bnd h
   refine WL.cut 6 (σ := Bool) (fun x w' => x = iu ∧ bM = w') (fun x => [(0, v0), (1, vi a1), (33, vB x)]) ?_ ?_
   ·rcases cnd h with ⟨bP, h⟩ | ⟨bP, h⟩
    ·refine WL.ren 27 z (congrArg vB bP) (WL.gS z z z z (WL.gS z z z z (WL.gS z z z z (WL.gS z z z z (WL.gS z z z z (wY (Y.pick (b := true) z z) z ?_))))))
     exact nl (At.join (σ := Bool) true ⟨some1 h, z⟩ (.cons z (.cons z (.cons z .nil))))
    ·refine WL.ren 27 z (congrArg vB bP) (ug z z (wY (ym z) z (ug z z ?_)))
     obtain ⟨L, gK, h⟩ := bnd h
     have gL := aL.i M z z
     obtain ⟨jV, iS, iT, jz, gM, gO, gP, bQ, dp, gQ⟩ := Sl.at2 gL gK
     obtain ⟨_, _, rfl, rfl, ⟨_, _, rfl, ⟨iv, rfl, jA⟩, ⟨_, _, rfl, rfl, ⟨_, _, rfl, rfl, ⟨_, _, rfl, rfl, ⟨_, _, rfl, rfl, ⟨_, _, rfl, rfl, ⟨_, _, rfl, rfl, ⟨_, _, rfl, rfl, ⟨_, _, rfl, rfl, ⟨_, _, rfl, ⟨_, _, rfl, rfl, ⟨_, _, rfl, rfl, ⟨_, _, rfl, ⟨_, _, rfl, rfl, ⟨iw, rfl, jB⟩⟩, ⟨_, _, rfl, rfl, ⟨ix, rfl, jC⟩⟩⟩⟩⟩, rfl⟩⟩⟩⟩⟩⟩⟩⟩⟩⟩⟩ := dp
     replace bQ : CellsAt _ _ _ [vs L.Name, iv, vi L.Kind, vi L.Temp, vB L.Mono, vi L.Start, vi L.Time, vi L.Int_, vu L.Re, vu L.Im, vi L.Hist.Scale, vu L.Hist.Zero, vi L.Hist.Pos.Offset, iw, vi L.Hist.Neg.Offset, ix, vi L.Flags] := bQ
     have dr := CAt.imm bQ gQ
     refine wY (Y.indexAddr ty22 ty37 z gM z gO gP) z (ug z z (wY (yf fo37_2 z) z (ug z z (wY (yl ty3 z z (dr.at_.sub 2 [vi L.Kind] z)) z (ug z z (wY (Y.neq_i z z) z (wY (Y.pick (b := false) z z) z ?_)))))))
     exact nl (At.join (σ := Bool) (!decide (L.Kind = 4)) ⟨some1 h, z⟩ (.cons z (.cons z (.cons z .nil))))
   ·rintro iy _ ⟨rfl, rfl⟩
    replace h := gJ
    try dsimp only at h
    refine (show WL _ _ _ _ _ [(0, v0), (1, vi a1), (33, vB iy)] _ from ?_)
    refine nl (th ?_)
    rcases cnd h with ⟨bR, h⟩ | ⟨bR, h⟩
    ·refine WC.condT' z bR (sq (rg (wY (ya z) z (nl (th (rt (At.thenR ?_)))))))
     obtain rfl := some1 h
     have gR : Stp [] (Lg.O0 A) w bF bM := (tr_ (su_ X z) (su_ M z))
     exact At.res (.inl z) z (.tmp z .nil) ⟨z, (se_ gR z z)⟩
    ·refine WC.condF' z bR (sk (th (sq (rg (wY (ym z) z (wY (ym z) z ?_))))))
     have gU := aL.i M z z
     obtain ⟨⟨iz, cK, d⟩, gV, h⟩ := bnd h
     refine WL.call (vals := [v0, vi a1]) kok13 z z (c_law15_play (A := imm bF) gU gV) ?_
     rintro jD aM ⟨r, Q, iA, iB, rfl, gW, iC, iD, iE, iF⟩
     obtain ⟨bG, bH, ae, af⟩ := adoptE bF (fun k => 1) gW
     have gX : Sl rep_api_Point aM (imm bG) r iz := Sl.adoptI (O := bF) iC (fun _ hk => hk) (fun _ _ => Nat.le_refl _) bH ae
     have gY : Sl rep_api_Point aM (imm bG) Q cK := Sl.adoptI (O := bF) iD (fun _ hk => hk) (fun _ _ => Nat.le_refl _) bH ae
     have gZ : Sl Rep.u aM (frs bG) iA d.Hist.Pos.Counts := Sl.adoptF iE (fun k hk => ⟨hk, z⟩) ae
     have g0 : Sl Rep.u aM (frs bG) iB d.Hist.Neg.Counts := Sl.adoptF iF (fun k hk => ⟨hk, z⟩) ae
     refine wY (ym z) z (wY (yx z z) z (wY (yx z z) z (wY (yx z z) z (WL.alloc (O := bG) 11 [vB false, vi 0, vi 0, vi 0, vu 0, vu 0, vi 0, vu 0, vi 0, Value.slice none 0 0, vi 0, Value.slice none 0 0] ty32 z z ?_))))
     intro q cL jE P g1
     refine wY (ya z) z (wY (ya z) z ?_)
     have cM := gZ.f P z
     have g2 := h
     obtain ⟨cb, cc, cd, rfl⟩ := cM.shape
     have h := g2
     have cN := g0.f P z
     have g3 := h
     obtain ⟨ce, cf, cg, rfl⟩ := cN.shape
     have h := g3
     refine WL.store (v := ag [vB d.Some, vi d.Start, vi d.Time, vi d.Int_, vu d.Re, vu d.Im, vi d.Hist.Scale, vu d.Hist.Zero, vi d.Hist.Pos.Offset, (Value.slice cb cc cd), vi d.Hist.Neg.Offset, (Value.slice ce cf cg)]) (cells' := [vB d.Some, vi d.Start, vi d.Time, vi d.Int_, vu d.Re, vu d.Im, vi d.Hist.Scale, vu d.Hist.Zero, vi d.Hist.Pos.Offset, (Value.slice cb cc cd), vi d.Hist.Neg.Offset, (Value.slice ce cf cg)]) ty32 z z g1 z (le_ z) z z ?_
     intro ad t aN
     refine nl (th (sq (sq (rg (wY (ym z) z ?_)))))
     have ds := gY.i P z z
     have ac := ds.i t z z
     refine wY (Y.len ty22 z ac) z (wY (Y.eql_i z z) z (nl (th ?_)))
     rcases cnd h with ⟨aO, h⟩ | ⟨aO, h⟩
     ·refine WC.condT' z aO (sq (rg (wY (ya z) z (nl (th (rt (At.thenR ?_)))))))
      obtain rfl := some1 h
      have dt : Stp [11] (Lg.O0 A) w cL ad := (tr_ (su_ X z) (tr_ (su_ M z) (tr_ (su_ af z) (tr_ (su_ P z) (su_ t z)))))
      exact At.res (.inl z) z (.tmp z .nil) ⟨z, (se_ dt z z)⟩
     ·refine WC.condF' z aO (sk (th (sq (rg (wY (ya z) z (nl (th (sq (sq ?_)))))))))
      refine rg (wY (ya z) z (nl (th ?_)))
      obtain ⟨g4, h, ch⟩ := flow1 h
      refine WC.join (σ := Int) (fun x w' => g4 = .go x ∧ ad = w') (fun x => [(5, r), (6, Q), (7, pt q 0), (8, vi x)]) ?_ ?_
      ·refine WC.block ?_
       obtain ⟨cO, h, ci⟩ := flow1 h
       obtain ⟨cP, h⟩ := loop_some h
       refine WC.joinB 0 (σ := Int) (fun x w' => cO = .go x ∧ ad = w') (fun x => [(5, r), (6, Q), (7, pt q 0), (8, vi x)]) ?_ ?_
       ·refine WC.loop (σ := (Int × Int)) (fun x k w' => loopN k (law15_TodeltaHists_lp1 a1 cK) (x.1, x.2) = some cO ∧ ad = w') (fun x => [(1, vi a1), (5, r), (6, Q), (7, pt q 0), (8, vi x.1), (9, vi x.2)]) (0, 0) cP (.cons z (.cons z (.cons z (.cons z (.cons z (.cons z .nil)))))) ⟨h, z⟩ ?_
        rintro ⟨S, am⟩ cP _ ⟨h, rfl⟩
        obtain ⟨g5, jF, rfl, h, aP⟩ := rnd1 h
        unfold law15_TodeltaHists_lp1 at h
        try dsimp only at h
        refine (show WC _ _ _ _ [(1, vi a1), (5, r), (6, Q), (7, pt q 0), (8, vi S), (9, vi am)] _ from ?_)
        refine sq (sq (rg (wY (ym z) z (wY (ym z) z (wY (Y.len ty22 z ac) z (wY (Y.lss_i z z) z (nl (th ?_))))))))
        rcases cnd h with ⟨aQ, h⟩ | ⟨aQ, h⟩
        ·refine WC.condT' z aQ (sk (th (sq ?_)))
         obtain ⟨g6, h, cj⟩ := flow1 h
         refine WC.join (σ := Int) (fun x w' => g6 = .go x ∧ ad = w') (fun x => [(1, vi a1), (5, r), (6, Q), (7, pt q 0), (8, vi x), (9, vi am)]) ?_ ?_
         ·refine WC.block (sq (sq (rg (wY (ym z) z (wY (ym z) z ?_)))))
          obtain ⟨C, du, h⟩ := bnd h
          obtain ⟨jG, iG, iH, iU, dw, dx, dy, aR, cQ, dz⟩ := Sl.at2 ac du
          obtain ⟨_, _, rfl, rfl, ⟨_, _, rfl, ⟨g7, rfl, iV⟩, ⟨_, _, rfl, rfl, ⟨_, _, rfl, rfl, ⟨_, _, rfl, rfl, ⟨_, _, rfl, rfl, ⟨_, _, rfl, rfl, ⟨_, _, rfl, rfl, ⟨_, _, rfl, rfl, ⟨_, _, rfl, rfl, ⟨_, _, rfl, ⟨_, _, rfl, rfl, ⟨_, _, rfl, rfl, ⟨_, _, rfl, ⟨_, _, rfl, rfl, ⟨cR, rfl, dA⟩⟩, ⟨_, _, rfl, rfl, ⟨g8, rfl, iW⟩⟩⟩⟩⟩, rfl⟩⟩⟩⟩⟩⟩⟩⟩⟩⟩⟩ := cQ
          replace aR : CellsAt _ _ _ [vs C.Name, g7, vi C.Kind, vi C.Temp, vB C.Mono, vi C.Start, vi C.Time, vi C.Int_, vu C.Re, vu C.Im, vi C.Hist.Scale, vu C.Hist.Zero, vi C.Hist.Pos.Offset, cR, vi C.Hist.Neg.Offset, g8, vi C.Flags] := aR
          have cS := CAt.imm aR dz
          refine wY (Y.indexAddr ty22 ty37 z dw z dx dy) z (wY (yf fo37_10 z) z (wY (yf fo30_2 z) z (wY (yf fo28_1 z) z (wY (yl ty26 z z (cS.at_.sub 13 [cR] z)) z (wY (Y.len ty26 z dA) z (wY (ym z) z (wY (Y.gtr_i z z) z (wY (ym z) z ?_))))))))
          obtain ⟨g9, h, dB⟩ := bnd h
          refine WL.cut 11 (σ := Bool) (fun x w' => x = g9 ∧ ad = w') (fun x => [(1, vi a1), (5, r), (6, Q), (7, pt q 0), (8, vi S), (9, vi am), (71, vB x)]) ?_ ?_
          ·rcases cnd h with ⟨aS, h⟩ | ⟨aS, h⟩
           ·refine WL.ren 60 z (congrArg vB aS) (WL.gS z z z z (WL.gS z z z z (WL.gS z z z z (WL.gS z z z z (WL.gS z z z z (WL.gS z z z z (WL.gS z z z z (WL.gS z z z z (WL.gS z z z z ?_)))))))))
            refine WL.gS z z z z (wY (Y.pick (b := true) z z) z ?_)
            exact nl (At.join (σ := Bool) true ⟨some1 h, z⟩ (.cons z (.cons z (.cons z (.cons z (.cons z (.cons z (.cons z .nil))))))))
           ·refine WL.ren 60 z (congrArg vB aS) (ug z z (wY (ym z) z (ug z z (wY (ym z) z (ug z z ?_)))))
            obtain ⟨o, dC, h⟩ := bnd h
            obtain ⟨jH, iI, iJ, iX, dD, dE, dF, aT, cT, dG⟩ := Sl.at2 ac dC
            obtain ⟨_, _, rfl, rfl, ⟨_, _, rfl, ⟨ha, rfl, iY⟩, ⟨_, _, rfl, rfl, ⟨_, _, rfl, rfl, ⟨_, _, rfl, rfl, ⟨_, _, rfl, rfl, ⟨_, _, rfl, rfl, ⟨_, _, rfl, rfl, ⟨_, _, rfl, rfl, ⟨_, _, rfl, rfl, ⟨_, _, rfl, ⟨_, _, rfl, rfl, ⟨_, _, rfl, rfl, ⟨_, _, rfl, ⟨_, _, rfl, rfl, ⟨hc, rfl, iZ⟩⟩, ⟨_, _, rfl, rfl, ⟨cU, rfl, dH⟩⟩⟩⟩⟩, rfl⟩⟩⟩⟩⟩⟩⟩⟩⟩⟩⟩ := cT
            replace aT : CellsAt _ _ _ [vs o.Name, ha, vi o.Kind, vi o.Temp, vB o.Mono, vi o.Start, vi o.Time, vi o.Int_, vu o.Re, vu o.Im, vi o.Hist.Scale, vu o.Hist.Zero, vi o.Hist.Pos.Offset, hc, vi o.Hist.Neg.Offset, cU, vi o.Flags] := aT
            have cV := CAt.imm aT dG
            refine wY (Y.indexAddr ty22 ty37 z dD z dE dF) z (ug z z (wY (yf fo37_10 z) z (ug z z (wY (yf fo30_3 z) z (ug z z (wY (yf fo28_1 z) z (ug z z (wY (yl ty26 z z (cV.at_.sub 15 [cU] z)) z (ug z z ?_)))))))))
            refine wY (Y.len ty26 z dH) z (ug z z (wY (ym z) z (ug z z (wY (Y.gtr_i z z) z (wY (Y.pick (b := false) z z) z ?_)))))
            exact nl (At.join (σ := Bool) (decide (a1 < (o.Hist.Neg.Counts.length : Int))) ⟨some1 h, z⟩ (.cons z (.cons z (.cons z (.cons z (.cons z (.cons z (.cons z .nil))))))))
          ·rintro hd _ ⟨rfl, rfl⟩
           replace h := dB
           try dsimp only at h
           refine (show WL _ _ _ _ _ [(1, vi a1), (5, r), (6, Q), (7, pt q 0), (8, vi S), (9, vi am), (71, vB hd)] _ from ?_)
           refine nl (th ?_)
           rcases cnd h with ⟨aU, h⟩ | ⟨aU, h⟩
           ·refine WC.condT' z aU (sq (rg (wY (ya z) z (nl (th (rt (At.thenR (At.inBlockR ?_))))))))
            have h := outs1 h cj
            refine At.joinR (At.thenR (At.loopR ?_))
            have h := outr1 h aP ci
            refine At.joinBR (At.inBlockR ?_)
            have h := outs1 h ch
            refine At.joinR (At.thenR ?_)
            obtain rfl := some1 h
            have dI : Stp [11] (Lg.O0 A) w cL ad := (tr_ (su_ X z) (tr_ (su_ M z) (tr_ (su_ af z) (tr_ (su_ P z) (su_ t z)))))
            exact At.res (.inl z) z (.tmp z .nil) ⟨z, (se_ dI z z)⟩
           ·refine WC.condF' z aU (sk (th (sq (rg (wY (ym z) z (wY (ym z) z ?_))))))
            obtain ⟨p, dJ, h⟩ := bnd h
            obtain ⟨jI, iK, iL, i0, dK, dL, dM, aW, cW, dN⟩ := Sl.at2 ac dJ
            obtain ⟨_, _, rfl, rfl, ⟨_, _, rfl, ⟨he, rfl, i1⟩, ⟨_, _, rfl, rfl, ⟨_, _, rfl, rfl, ⟨_, _, rfl, rfl, ⟨_, _, rfl, rfl, ⟨_, _, rfl, rfl, ⟨_, _, rfl, rfl, ⟨_, _, rfl, rfl, ⟨_, _, rfl, rfl, ⟨_, _, rfl, ⟨_, _, rfl, rfl, ⟨_, _, rfl, rfl, ⟨_, _, rfl, ⟨_, _, rfl, rfl, ⟨hf, rfl, i2⟩⟩, ⟨_, _, rfl, rfl, ⟨hg, rfl, i3⟩⟩⟩⟩⟩, rfl⟩⟩⟩⟩⟩⟩⟩⟩⟩⟩⟩ := cW
            replace aW : CellsAt _ _ _ [vs p.Name, he, vi p.Kind, vi p.Temp, vB p.Mono, vi p.Start, vi p.Time, vi p.Int_, vu p.Re, vu p.Im, vi p.Hist.Scale, vu p.Hist.Zero, vi p.Hist.Pos.Offset, hf, vi p.Hist.Neg.Offset, hg, vi p.Flags] := aW
            have cX := CAt.imm aW dN
            refine wY (Y.indexAddr ty22 ty37 z dK z dL dM) z (wY (yf fo37_11 z) z (wY (yl ty3 z z (cX.at_.sub 16 [vi p.Flags] z)) z (wY (Y.neq_i z z) z (nl (th ?_)))))
            rcases cnd h with ⟨aX, h⟩ | ⟨aX, h⟩
            ·refine WC.condT' z aX (rg (wY (ym z) z (wY (ya z) z (nl (At.inBlock ?_)))))
             exact At.join (σ := Int) am ⟨go2 h, z⟩ (.cons z (.cons z (.cons z (.cons z (.cons z (.cons z .nil))))))
            ·refine WC.condF' z aX (sk (At.inBlock ?_))
             exact At.join (σ := Int) S ⟨go2 h, z⟩ (.cons z (.cons z (.cons z (.cons z (.cons z (.cons z .nil))))))
         ·rintro aA _ ⟨rfl, rfl⟩
          replace h := flowK_go cj
          try dsimp only at h
          refine (show At _ _ _ [(1, vi a1), (5, r), (6, Q), (7, pt q 0), (8, vi aA), (9, vi am)] _ from ?_)
          refine th (rg (wY (ym z) z (wY (Y.add_i z z) z ?_)))
          obtain ⟨hh, dO, h⟩ := lt1 h
          refine WL.yE (ya z) (congrArg vi dO.symm) z (nl ?_)
          exact At.round (aA, hh) g5 (Nat.lt_succ_self _) ⟨next1 h aP, z⟩ (.cons z (.cons z (.cons z (.cons z (.cons z (.cons z .nil))))))
        ·refine WC.condF' z aQ (WC.exit (At.thenX (At.loopX ?_)))
         exact At.hitB (σ := Int) S ⟨brk1 h aP, z⟩ (.cons z (.cons z (.cons z (.cons z .nil))))
       ·rintro aC _ ⟨rfl, rfl⟩
        replace h := flowK_go ci
        try dsimp only at h
        refine (show At _ _ _ [(5, r), (6, Q), (7, pt q 0), (8, vi aC)] _ from ?_)
        refine At.inBlockHit ?_
        exact At.join (σ := Int) aC ⟨go2 h, z⟩ (.cons z (.cons z (.cons z (.cons z .nil))))
      ·rintro aD _ ⟨rfl, rfl⟩
       replace h := flowK_go ch
       try dsimp only at h
       refine (show At _ _ _ [(5, r), (6, Q), (7, pt q 0), (8, vi aD)] _ from ?_)
       refine th (sq (rg (wY (yf fo32_6 z) z (wY (yf fo30_0 z) z (wY (yl ty3 z z (aN.cell 6 _ z)) z (wY (yb (vals := [(0, vi d.Hist.Scale)]) (cells := [vi d.Hist.Scale, vu 0, vi 0, Value.slice none 0 0, vi 0, Value.slice none 0 0]) (fe_ z) (by kernel_rfl)) z (WL.alloc (O := cL) 12 [vi 0, vu 0, vi 0, Value.slice none 0 0, vi 0, Value.slice none 0 0] ty30 z z ?_)))))))
       intro T aY i4 D dP
       refine WL.store (v := ag [vi d.Hist.Scale, vu 0, vi 0, Value.slice none 0 0, vi 0, Value.slice none 0 0]) (cells' := [vi d.Hist.Scale, vu 0, vi 0, Value.slice none 0 0, vi 0, Value.slice none 0 0]) ty30 z z dP z (le_ z) z z ?_
       intro aZ E dQ
       refine nl (th (sq (sq (rg (wY (ym z) z (wY (ya z) z (nl (th ?_))))))))
       obtain ⟨hi, h, a2⟩ := flow1 h
       refine WC.join (σ := (Int × UInt64 × Int × List UInt64 × Int × List UInt64 × Own × Value × Value)) (fun x w' => hi = .go (x.1, x.2.1, x.2.2.1, x.2.2.2.1, x.2.2.2.2.1, x.2.2.2.2.2.1) ∧ Stp [12, 13, 14, 1001] aY aZ x.2.2.2.2.2.2.1 w' ∧ Sl Rep.u w' (frs x.2.2.2.2.2.2.1) x.2.2.2.2.2.2.2.1 x.2.2.2.1 ∧ Sl Rep.u w' (frs x.2.2.2.2.2.2.1) x.2.2.2.2.2.2.2.2 x.2.2.2.2.2.1 ∧ Blk 12 x.2.2.2.2.2.2.1 w' T 30 [vi x.1, vu x.2.1, vi x.2.2.1, x.2.2.2.2.2.2.2.1, vi x.2.2.2.2.1, x.2.2.2.2.2.2.2.2]) (fun x => [(5, r), (7, pt q 0), (10, pt T 0)]) ?_ ?_
       ·refine WC.block ?_
        obtain ⟨cY, h, a3⟩ := flow1 h
        obtain ⟨cZ, h⟩ := loop_some h
        refine WC.joinB 2 (σ := (Int × UInt64 × Int × List UInt64 × Int × List UInt64 × Own × Value × Value)) (fun x w' => cY = .go (x.1, x.2.1, x.2.2.1, x.2.2.2.1, x.2.2.2.2.1, x.2.2.2.2.2.1) ∧ Stp [12, 13, 14, 1001] aY aZ x.2.2.2.2.2.2.1 w' ∧ Sl Rep.u w' (frs x.2.2.2.2.2.2.1) x.2.2.2.2.2.2.2.1 x.2.2.2.1 ∧ Sl Rep.u w' (frs x.2.2.2.2.2.2.1) x.2.2.2.2.2.2.2.2 x.2.2.2.2.2.1 ∧ Blk 12 x.2.2.2.2.2.2.1 w' T 30 [vi x.1, vu x.2.1, vi x.2.2.1, x.2.2.2.2.2.2.2.1, vi x.2.2.2.2.1, x.2.2.2.2.2.2.2.2]) (fun x => [(5, r), (7, pt q 0), (10, pt T 0)]) ?_ ?_
        ·refine WC.loop (σ := (Int × UInt64 × Int × List UInt64 × Int × List UInt64 × Int × Own × Value × Value)) (fun x k w' => loopN k (law15_TodeltaHists_lp2 cK d) (x.1, x.2.1, x.2.2.1, x.2.2.2.1, x.2.2.2.2.1, x.2.2.2.2.2.1, x.2.2.2.2.2.2.1) = some cY ∧ Stp [12, 13, 14, 1001] aY aZ x.2.2.2.2.2.2.2.1 w' ∧ Sl Rep.u w' (frs x.2.2.2.2.2.2.2.1) x.2.2.2.2.2.2.2.2.1 x.2.2.2.1 ∧ Sl Rep.u w' (frs x.2.2.2.2.2.2.2.1) x.2.2.2.2.2.2.2.2.2 x.2.2.2.2.2.1 ∧ Blk 12 x.2.2.2.2.2.2.2.1 w' T 30 [vi x.1, vu x.2.1, vi x.2.2.1, x.2.2.2.2.2.2.2.2.1, vi x.2.2.2.2.1, x.2.2.2.2.2.2.2.2.2]) (fun x => [(5, r), (6, Q), (7, pt q 0), (10, pt T 0), (11, vi x.2.2.2.2.2.2.1)]) (d.Hist.Scale, 0, 0, [], 0, [], aD, aY, Value.slice none 0 0, Value.slice none 0 0) cZ (.cons z (.cons z (.cons z (.cons z (.cons z .nil))))) ⟨h, (sr_ _ _ _), (Or.inl ⟨z, z⟩), (Or.inl ⟨z, z⟩), dQ⟩ ?_
         rintro ⟨a4, a5, a6, c0, a7, c1, bS, aE, bT, bU⟩ cZ i5 ⟨h, U, a8, a9, ba⟩
         obtain ⟨hj, jJ, rfl, h, az⟩ := rnd1 h
         unfold law15_TodeltaHists_lp2 at h
         try dsimp only at h U a8 a9 ba
         refine (show WC _ _ _ _ [(5, r), (6, Q), (7, pt q 0), (10, pt T 0), (11, vi bS)] _ from ?_)
         refine sq (sq (rg (wY (ym z) z (wY (ym z) z ?_))))
         have dR := ac.i D z z
         have dS := dR.i E z z
         have ck := dS.i U z z
         refine wY (Y.len ty22 z ck) z (wY (Y.lss_i z z) z (nl (th ?_)))
         rcases cnd h with ⟨bb, h⟩ | ⟨bb, h⟩
         ·refine WC.condT' z bb (sk (th (sq (WC.block (sq (WC.drawH [13, 14, 1001] [0, 1, 2, 3, 4, 5, 6, 7, 8, 9, 10, 11, 12, 13, 14, 15, 16, 17, 18, 19, 20, 21] aE 22 fmix z (by kernel_rfl) ?_))))))
          intro dT J
          refine WD.y 0 z (by kernel_rfl) (fun _ _ _ => ym z) z (WD.y 1 z (by kernel_rfl) (fun _ _ _ => ym z) z ?_)
          obtain ⟨e, dU, h⟩ := bnd h
          have cl := ck.i J z z
          obtain ⟨jK, iM, iN, i6, dV, dW, dX, bc, c2, dY⟩ := Sl.at2 cl dU
          obtain ⟨_, _, rfl, rfl, ⟨_, _, rfl, ⟨hl, rfl, i7⟩, ⟨_, _, rfl, rfl, ⟨_, _, rfl, rfl, ⟨_, _, rfl, rfl, ⟨_, _, rfl, rfl, ⟨_, _, rfl, rfl, ⟨_, _, rfl, rfl, ⟨_, _, rfl, rfl, ⟨_, _, rfl, rfl, ⟨_, _, rfl, ⟨_, _, rfl, rfl, ⟨_, _, rfl, rfl, ⟨_, _, rfl, ⟨_, _, rfl, rfl, ⟨bd, rfl, cm⟩⟩, ⟨_, _, rfl, rfl, ⟨bf, rfl, cn⟩⟩⟩⟩⟩, rfl⟩⟩⟩⟩⟩⟩⟩⟩⟩⟩⟩ := c2
          replace bc : CellsAt _ _ _ [vs e.Name, hl, vi e.Kind, vi e.Temp, vB e.Mono, vi e.Start, vi e.Time, vi e.Int_, vu e.Re, vu e.Im, vi e.Hist.Scale, vu e.Hist.Zero, vi e.Hist.Pos.Offset, bd, vi e.Hist.Neg.Offset, bf, vi e.Flags] := bc
          have c3 := CAt.imm bc dY
          refine WD.y 2 z (by kernel_rfl) (fun _ _ _ => Y.indexAddr ty22 ty37 z dV z dW dX) z (WD.y 3 z (by kernel_rfl) (fun _ _ _ => yf fo37_10 z) z (WD.y 4 z (by kernel_rfl) (fun i8 jL c4 => have dZ := c3.st c4 z; yL ty30 z z (dZ.at_.sub 10 [vi e.Hist.Scale, vu e.Hist.Zero, vi e.Hist.Pos.Offset, bd, vi e.Hist.Neg.Offset, bf] z) z) z (WD.y 5 z (by kernel_rfl) (fun _ _ _ => ym z) z (WD.y 6 z (by kernel_rfl) (fun _ _ _ => ym z) z ?_))))
          obtain ⟨l, d0, h⟩ := bnd h
          obtain ⟨jM, iO, iP, i9, d1, d2, d3, bg, c5, d4⟩ := Sl.at2 cl d0
          obtain ⟨_, _, rfl, rfl, ⟨_, _, rfl, ⟨hm, rfl, ja⟩, ⟨_, _, rfl, rfl, ⟨_, _, rfl, rfl, ⟨_, _, rfl, rfl, ⟨_, _, rfl, rfl, ⟨_, _, rfl, rfl, ⟨_, _, rfl, rfl, ⟨_, _, rfl, rfl, ⟨_, _, rfl, rfl, ⟨_, _, rfl, ⟨_, _, rfl, rfl, ⟨_, _, rfl, rfl, ⟨_, _, rfl, ⟨_, _, rfl, rfl, ⟨hn, rfl, jb⟩⟩, ⟨_, _, rfl, rfl, ⟨ho, rfl, jc⟩⟩⟩⟩⟩, rfl⟩⟩⟩⟩⟩⟩⟩⟩⟩⟩⟩ := c5
          replace bg : CellsAt _ _ _ [vs l.Name, hm, vi l.Kind, vi l.Temp, vB l.Mono, vi l.Start, vi l.Time, vi l.Int_, vu l.Re, vu l.Im, vi l.Hist.Scale, vu l.Hist.Zero, vi l.Hist.Pos.Offset, hn, vi l.Hist.Neg.Offset, ho, vi l.Flags] := bg
          have c6 := CAt.imm bg d4
          refine WD.y 7 z (by kernel_rfl) (fun _ _ _ => Y.indexAddr ty22 ty37 z d1 z d2 d3) z (WD.y 8 z (by kernel_rfl) (fun _ _ _ => yf fo37_10 z) z (WD.y 9 z (by kernel_rfl) (fun _ _ _ => yf fo30_0 z) z (WD.y 10 z (by kernel_rfl) (fun jd jN c7 => have d5 := c6.st c7 z; yl ty3 z z (d5.at_.sub 10 [vi l.Hist.Scale] z)) z (WD.y 11 z (by kernel_rfl) (fun _ _ _ => yf fo32_6 z) z (WD.y 12 z (by kernel_rfl) (fun _ _ _ => yf fo30_0 z) z (WD.y 13 z (by kernel_rfl) (fun je jO c8 => have d6 := aN.st D z; have d7 := d6.st E z; have d8 := d7.st U z; have d9 := d8.st J z; have ea := d9.st c8 z; yl ty3 z z (ea.cell 6 _ z)) z (WD.y 14 z (by kernel_rfl) (fun _ _ _ => Y.sub_i z z) z ?_)))))))
          obtain ⟨hp, h, eb⟩ := bnd h
          refine WD.join (σ := (Int × UInt64 × Int × List UInt64 × Int × List UInt64 × Int × Own × Nat × Value × Value)) (f' := 2) [19, 18, 17, 16, 15, 14, 13, 12, 11, 10, 9, 8, 7, 6, 5, 4, 3, 2, 1, 0] (fun x O' w' => (x.1, x.2.1, x.2.2.1, x.2.2.2.1, x.2.2.2.2.1, x.2.2.2.2.2.1, x.2.2.2.2.2.2.1) = hp ∧ Stp [13, 14] aE dT x.2.2.2.2.2.2.2.1 w' ∧ Blk 1001 x.2.2.2.2.2.2.2.1 w' x.2.2.2.2.2.2.2.2.1 30 [vi 0, vu 0, vi 0, Value.slice none 0 0, vi 0, Value.slice none 0 0] ∧ Sl Rep.u w' (frs x.2.2.2.2.2.2.2.1) x.2.2.2.2.2.2.2.2.2.1 x.2.2.2.1 ∧ Sl Rep.u w' (frs x.2.2.2.2.2.2.2.1) x.2.2.2.2.2.2.2.2.2.2 x.2.2.2.2.2.1 ∧ x.2.2.2.2.2.2.2.1 = O') (fun x => [(5, r), (6, Q), (7, pt q 0), (10, pt T 0), (11, vi bS), (12, Value.pointer (some ⟨x.2.2.2.2.2.2.2.2.1, 0, none⟩)), (107, ag [vi x.1, vu x.2.1, vi x.2.2.1, x.2.2.2.2.2.2.2.2.2.1, vi x.2.2.2.2.1, x.2.2.2.2.2.2.2.2.2.2]), (108, vi x.2.2.2.2.2.2.1)]) (fun co => ?_) ?_
          ·refine WD.heavy2 15 19 z z (by kernel_rfl) ?_ ?_
           ·obtain ⟨⟨aa, hq⟩, ec, h⟩ := bnd h
            refine WL.call (vals := [ag [vi e.Hist.Scale, vu e.Hist.Zero, vi e.Hist.Pos.Offset, bd, vi e.Hist.Neg.Offset, bf], vi (w64 (l.Hist.Scale - d.Hist.Scale))]) kok31 z z (c_hist_Down (A := fun _ => True) (a0 := e.Hist) (Sl.all cm) (Sl.all cn) ec) ?_
            rintro jf cp ⟨c9, da, rfl, ed, hr, hs⟩
            obtain ⟨bW, ig, aH, bI⟩ := adoptE aE (fun k => 1) ed
            have ee : Sl Rep.u cp (frs bW) c9 aa.Pos.Counts := Sl.adoptF hr (fun k hk => ⟨hk, z⟩) aH
            have ef : Sl Rep.u cp (frs bW) da aa.Neg.Counts := Sl.adoptF hs (fun k hk => ⟨hk, z⟩) aH
            refine nl (At.dq (su_ bI z) (WD.y 16 z (by kernel_rfl) (fun _ _ _ => ym z) z (WD.y 17 z (by kernel_rfl) (fun _ _ _ => yx z z) z (WD.y 18 z (by kernel_rfl) (fun _ _ _ => yx z z) z (WD.heavy 19 z (by kernel_rfl) (WL.alloc (O := bW) 13 [vi 0, vu 0, vi 0, Value.slice none 0 0, vi 0, Value.slice none 0 0] ty30 z z ?_))))))
            intro ht jP jg ah eg
            refine nl (At.dq (su_ ah z) ?_)
            obtain ⟨hu, ai, eh⟩ := Blk.rlb 1001 rfl eg
            have ei := ee.f ah z
            have ej := ei.f ai z
            have ek := ef.f ah z
            have em := ek.f ai z
            refine WD.own (su_ ai z) (WD.perm _ [19, 18, 17, 16, 15, 14, 13, 12, 11, 10, 9, 8, 7, 6, 5, 4, 3, 2, 1, 0] (by kernel_rfl) ?_)
            exact co (aa.Scale, aa.Zero, aa.Pos.Offset, aa.Pos.Counts, aa.Neg.Offset, aa.Neg.Counts, hq, hu, ht, c9, da) _ _ _ ⟨some1 h, (tr_ (su_ bI z) (tr_ (su_ ah z) (su_ ai z))), eh, ej, em, z⟩ (.cons z (.cons z (.cons z (.cons z (.cons z (.cons z (.cons z (.cons z .nil))))))))
           ·try simp only [Option.bind_assoc] at h
            try simp only [Option.bind_some] at h
            refine WL.alloc (O := aE) 14 [vi 0, vu 0, vi 0, Value.slice none 0 0, vi 0, Value.slice none 0 0] ty30 z z ?_
            intro hv hw jh aj en
            refine nl (At.dq (su_ aj z) (WD.heavy 15 z (by kernel_rfl) ?_))
            have eo := cm.i aj z z
            have ep := cn.i aj z z
            obtain ⟨⟨ab, hx⟩, er, h⟩ := bnd h
            refine WL.call (vals := [ag [vi e.Hist.Scale, vu e.Hist.Zero, vi e.Hist.Pos.Offset, bd, vi e.Hist.Neg.Offset, bf], vi (w64 (l.Hist.Scale - d.Hist.Scale))]) kok31 z z (c_hist_Down (A := fun _ => True) (a0 := e.Hist) (Sl.all eo) (Sl.all ep) er) ?_
            rintro ji cq ⟨db, dc, rfl, es, hy, hz⟩
            obtain ⟨dd, ih, aI, aF⟩ := adoptE hw (fun k => 1) es
            have et : Sl Rep.u cq (frs dd) db ab.Pos.Counts := Sl.adoptF hy (fun k hk => ⟨hk, z⟩) aI
            have eu : Sl Rep.u cq (frs dd) dc ab.Neg.Counts := Sl.adoptF hz (fun k hk => ⟨hk, z⟩) aI
            refine nl (At.dq (su_ aF z) (WD.y 16 z (by kernel_rfl) (fun _ _ _ => ym z) z (WD.y 17 z (by kernel_rfl) (fun _ _ _ => yx z z) z (WD.y 18 z (by kernel_rfl) (fun _ _ _ => yx z z) z ?_))))
            have ew := en.st aF z
            obtain ⟨hA, ak, ex⟩ := Blk.rlb 1001 rfl ew
            have ey := et.f ak z
            have ez := eu.f ak z
            refine WD.own (su_ ak z) (WD.perm _ [19, 18, 17, 16, 15, 14, 13, 12, 11, 10, 9, 8, 7, 6, 5, 4, 3, 2, 1, 0] (by kernel_rfl) ?_)
            exact co (ab.Scale, ab.Zero, ab.Pos.Offset, ab.Pos.Counts, ab.Neg.Offset, ab.Neg.Counts, hx, hA, hv, db, dc) _ _ _ ⟨some1 h, (tr_ (su_ aj z) (tr_ (su_ aF z) (su_ ak z))), ex, ey, ez, z⟩ (.cons z (.cons z (.cons z (.cons z (.cons z (.cons z (.cons z (.cons z .nil))))))))
          ·rintro ⟨an, ao, ap, hC, aq, hD, hE, de, hF, hG, hH⟩ _ jj ⟨rfl, V, cr, bh, bi, rfl⟩
           replace h := eb
           try dsimp only at h V cr bh bi
           refine (show WD _ _ _ _ _ _ _ _ [(5, r), (6, Q), (7, pt q 0), (10, pt T 0), (11, vi bS), (12, pt hF 0), (107, ag [vi an, vu ao, vi ap, hG, vi aq, hH]), (108, vi hE)] _ _ from ?_)
           refine WD.heavy 20 z (by kernel_rfl) ?_
           have eA := h
           obtain ⟨bj, bk, bl, rfl⟩ := bh.shape
           have h := eA
           have eB := h
           obtain ⟨bm, bn, bo, rfl⟩ := bi.shape
           have h := eB
           refine WL.store (v := ag [vi an, vu ao, vi ap, (Value.slice bj bk bl), vi aq, (Value.slice bm bn bo)]) (cells' := [vi an, vu ao, vi ap, (Value.slice bj bk bl), vi aq, (Value.slice bm bn bo)]) ty30 z z cr z (le_ z) z z ?_
           intro eC F eD
           refine nl (At.dq (su_ F z) (WD.y 21 z (by kernel_rfl) (fun _ _ _ => ya z) z (WD.done_ (by kernel_rfl) (th (sq (sq (rg (wY (ym z) z (wY (Y.neq_i z z) z ?_)))))))))
           refine nl (th ?_)
           rcases cnd h with ⟨bp, h⟩ | ⟨bp, h⟩
           ·refine WC.condT' z bp (sq (rg (wY (ya z) z (nl (th (rt (At.thenR (At.inBlockR (At.thenR ?_)))))))))
            refine At.loopR ?_
            have h := outr1 h az a3
            refine At.joinBR (At.inBlockR ?_)
            have h := outs1 h a2
            refine At.joinR (At.thenR ?_)
            obtain rfl := some1 h
            have eE : Stp [11, 12, 13, 14, 1001] (Lg.O0 A) w de eC := (tr_ (su_ X z) (tr_ (su_ M z) (tr_ (su_ af z) (tr_ (su_ P z) (tr_ (su_ t z) (tr_ (su_ D z) (tr_ (su_ E z) (tr_ (su_ U z) (tr_ (su_ J z) (tr_ (su_ V z) (su_ F z)))))))))))
            exact At.res (.inl z) z (.tmp z .nil) ⟨z, (se_ eE z z)⟩
           ·refine WC.condF' z bp (sk (th (sq (rg ?_))))
            have eF := ba.st J z
            have eG := eF.st V z
            have cs := eG.st F z
            refine wY (yL ty30 z z (cs.cells 0 [vi a4, vu a5, vi a6, bT, vi a7, bU] z) z) z (wY (yL ty30 z z (eD.cells 0 [vi an, vu ao, vi ap, (Value.slice bj bk bl), vi aq, (Value.slice bm bn bo)] z) z) z ?_)
            have eH := a8.f J z
            have eI := eH.f V z
            have eJ := eI.f F z
            have eK := a9.f J z
            have eL := eK.f V z
            have eM := eL.f F z
            have eN := bh.f F z
            have eO := bi.f F z
            obtain ⟨⟨n, jQ⟩, eP, h⟩ := bnd h
            refine WL.call (vals := [ag [vi a4, vu a5, vi a6, bT, vi a7, bU], ag [vi an, vu ao, vi ap, (Value.slice bj bk bl), vi aq, (Value.slice bm bn bo)]]) kok32 z z (c_fold_Merge (A := fun _ => True) (a0 := (api_Hist.mk a4 a5 (api_Side.mk a6 c0) (api_Side.mk a7 c1))) (a1 := (api_Hist.mk an ao (api_Side.mk ap hC) (api_Side.mk aq hD))) (Sl.all eJ) (Sl.all eM) (Sl.all eN) (Sl.all eO) eP) ?_
            rintro jk ct ⟨hI, hJ, rfl, eQ, hK, hL⟩
            obtain ⟨bq, ii, aJ, aG⟩ := adoptE de (fun k => 1) eQ
            have cu : Sl Rep.u ct (frs bq) hI n.Pos.Counts := Sl.adoptF hK (fun k hk => ⟨hk, z⟩) aJ
            have cv : Sl Rep.u ct (frs bq) hJ n.Neg.Counts := Sl.adoptF hL (fun k hk => ⟨hk, z⟩) aJ
            refine wY (ym z) z (wY (yx z z) z (wY (yx z z) z ?_))
            have eR := h
            obtain ⟨bX, bY, bZ, rfl⟩ := cu.shape
            have h := eR
            have eS := h
            obtain ⟨b0, b1, b2, rfl⟩ := cv.shape
            have h := eS
            have eT := cs.st aG z
            refine WL.store (v := ag [vi n.Scale, vu n.Zero, vi n.Pos.Offset, (Value.slice bX bY bZ), vi n.Neg.Offset, (Value.slice b0 b1 b2)]) (cells' := [vi n.Scale, vu n.Zero, vi n.Pos.Offset, (Value.slice bX bY bZ), vi n.Neg.Offset, (Value.slice b0 b1 b2)]) ty30 z z eT z (le_ z) z z ?_
            intro eU al eV
            refine wY (ya z) z (nl (th (sq (rg (wY (ym z) z (wY (Y.neq_i z z) z (nl (th ?_))))))))
            rcases cnd h with ⟨br, h⟩ | ⟨br, h⟩
            ·refine WC.condT' z br (sq (rg (wY (ya z) z (nl (th (rt (At.inBlockR (At.thenR (At.loopR ?_)))))))))
             have h := outr1 h az a3
             refine At.joinBR (At.inBlockR ?_)
             have h := outs1 h a2
             refine At.joinR (At.thenR ?_)
             obtain rfl := some1 h
             have eW : Stp [11, 12, 13, 14, 1001] (Lg.O0 A) w bq eU := (tr_ (su_ X z) (tr_ (su_ M z) (tr_ (su_ af z) (tr_ (su_ P z) (tr_ (su_ t z) (tr_ (su_ D z) (tr_ (su_ E z) (tr_ (su_ U z) (tr_ (su_ J z) (tr_ (su_ V z) (tr_ (su_ F z) (tr_ (su_ aG z) (su_ al z)))))))))))))
             exact At.res (.inl z) z (.tmp z .nil) ⟨z, (se_ eW z z)⟩
            ·refine WC.condF' z br (sk (At.inBlock (th (rg (wY (ym z) z (wY (Y.add_i z z) z ?_))))))
             obtain ⟨hM, eX, h⟩ := lt1 h
             refine WL.yE (ya z) (congrArg vi eX.symm) z (nl ?_)
             have eY := cu.f al z
             have eZ := cv.f al z
             exact At.round (n.Scale, n.Zero, n.Pos.Offset, n.Pos.Counts, n.Neg.Offset, n.Neg.Counts, hM, bq, (Value.slice bX bY bZ), (Value.slice b0 b1 b2)) hj (Nat.lt_succ_self _) ⟨next1 h az, (tr_ (su_ U z) (tr_ (su_ J z) (tr_ (su_ V z) (tr_ (su_ F z) (tr_ (su_ aG z) (su_ al z)))))), eY, eZ, eV⟩ (.cons z (.cons z (.cons z (.cons z (.cons z .nil)))))
         ·refine WC.condF' z bb (WC.exit (At.thenX (At.loopX ?_)))
          exact At.hitB (σ := (Int × UInt64 × Int × List UInt64 × Int × List UInt64 × Own × Value × Value)) (a4, a5, a6, c0, a7, c1, aE, bT, bU) ⟨brk1 h az, (su_ U z), a8, a9, ba⟩ (.cons z (.cons z (.cons z .nil)))
        ·rintro ⟨hN, hO, hP, hQ, hR, hS, hT, hU, hV⟩ jl ⟨rfl, bJ, cw, cx, cy⟩
         replace h := flowK_go a3
         try dsimp only at h bJ cw cx cy
         refine (show At _ _ _ [(5, r), (7, pt q 0), (10, pt T 0)] _ from ?_)
         refine At.inBlockHit ?_
         exact At.join (σ := (Int × UInt64 × Int × List UInt64 × Int × List UInt64 × Own × Value × Value)) (hN, hO, hP, hQ, hR, hS, hT, hU, hV) ⟨go2 h, (su_ bJ z), cw, cx, cy⟩ (.cons z (.cons z (.cons z .nil)))
       ·rintro ⟨b3, b4, b5, hW, b6, hX, hY, df, dg⟩ jm ⟨rfl, Z, cz, cA, cC⟩
        replace h := flowK_go a2
        try dsimp only at h Z cz cA cC
        refine (show At _ _ _ [(5, r), (7, pt q 0), (10, pt T 0)] _ from ?_)
        refine th (sq (rg (wY (ym z) z (wY (ym z) z ?_))))
        have e0 := gX.i P z z
        have e1 := e0.i t z z
        have e2 := e1.i D z z
        have e5 := e2.i E z z
        have cD := e5.i Z z z
        refine wY (Y.len ty22 z cD) z (wY (Y.sub_i z z) z ?_)
        obtain ⟨a, e6, h⟩ := bnd h
        obtain ⟨jR, iQ, iR, jn, e7, e8, e9, bs, dh, fa⟩ := Sl.at2 cD e6
        obtain ⟨_, _, rfl, rfl, ⟨_, _, rfl, ⟨hZ, rfl, jo⟩, ⟨_, _, rfl, rfl, ⟨_, _, rfl, rfl, ⟨_, _, rfl, rfl, ⟨_, _, rfl, rfl, ⟨_, _, rfl, rfl, ⟨_, _, rfl, rfl, ⟨_, _, rfl, rfl, ⟨_, _, rfl, rfl, ⟨_, _, rfl, ⟨_, _, rfl, rfl, ⟨_, _, rfl, rfl, ⟨_, _, rfl, ⟨_, _, rfl, rfl, ⟨di, rfl, fb⟩⟩, ⟨_, _, rfl, rfl, ⟨dj, rfl, fc⟩⟩⟩⟩⟩, rfl⟩⟩⟩⟩⟩⟩⟩⟩⟩⟩⟩ := dh
        replace bs : CellsAt _ _ _ [vs a.Name, hZ, vi a.Kind, vi a.Temp, vB a.Mono, vi a.Start, vi a.Time, vi a.Int_, vu a.Re, vu a.Im, vi a.Hist.Scale, vu a.Hist.Zero, vi a.Hist.Pos.Offset, di, vi a.Hist.Neg.Offset, dj, vi a.Flags] := bs
        have dk := CAt.imm bs fa
        refine wY (Y.indexAddr ty22 ty37 z e7 z e8 e9) z (wY (yf fo37_10 z) z (wY (yL ty30 z z (dk.at_.sub 10 [vi a.Hist.Scale, vu a.Hist.Zero, vi a.Hist.Pos.Offset, di, vi a.Hist.Neg.Offset, dj] z) z) z (WL.alloc (O := hY) 15 [vi 0, vu 0, vi 0, Value.slice none 0 0, vi 0, Value.slice none 0 0] ty30 z z ?_)))
        intro jS h0 jp G fd
        have cE := fb.i G z z
        have fe := h
        obtain ⟨bt, bu, bw, rfl⟩ := cE.shape
        have h := fe
        have cF := fc.i G z z
        have ff := h
        obtain ⟨bx, bz, bA, rfl⟩ := cF.shape
        have h := ff
        refine WL.store (v := ag [vi a.Hist.Scale, vu a.Hist.Zero, vi a.Hist.Pos.Offset, (Value.slice bt bu bw), vi a.Hist.Neg.Offset, (Value.slice bx bz bA)]) (cells' := [vi a.Hist.Scale, vu a.Hist.Zero, vi a.Hist.Pos.Offset, (Value.slice bt bu bw), vi a.Hist.Neg.Offset, (Value.slice bx bz bA)]) ty30 z z fd z (le_ z) z z ?_
        intro jq H cG
        refine nl (th (sq (rg (wY (yL ty30 z z (cG.cells 0 [vi a.Hist.Scale, vu a.Hist.Zero, vi a.Hist.Pos.Offset, (Value.slice bt bu bw), vi a.Hist.Neg.Offset, (Value.slice bx bz bA)] z) z) z (wY (yf fo30_0 z) z (wY (yl ty3 z z (cG.cell 0 _ z)) z (wY (yf fo32_6 z) z (wY (yf fo30_0 z) z ?_))))))))
        have fg := aN.st D z
        have fh := fg.st E z
        have fi := fh.st Z z
        have fj := fi.st G z
        have cH := fj.st H z
        refine wY (yl ty3 z z (cH.cell 6 _ z)) z (wY (Y.sub_i z z) z ?_)
        have fk := cE.i H z z
        have fl := cF.i H z z
        obtain ⟨⟨j, jT⟩, fm, h⟩ := bnd h
        refine WL.call (vals := [ag [vi a.Hist.Scale, vu a.Hist.Zero, vi a.Hist.Pos.Offset, (Value.slice bt bu bw), vi a.Hist.Neg.Offset, (Value.slice bx bz bA)], vi (w64 (a.Hist.Scale - d.Hist.Scale))]) kok31 z z (c_hist_Down (A := fun _ => True) (a0 := a.Hist) (Sl.all fk) (Sl.all fl) fm) ?_
        rintro jr cI ⟨h1, h2, rfl, fn, h3, h4⟩
        obtain ⟨b7, ij, aK, W⟩ := adoptE h0 (fun k => 1) fn
        have fo : Sl Rep.u cI (frs b7) h1 j.Pos.Counts := Sl.adoptF h3 (fun k hk => ⟨hk, z⟩) aK
        have fp : Sl Rep.u cI (frs b7) h2 j.Neg.Counts := Sl.adoptF h4 (fun k hk => ⟨hk, z⟩) aK
        refine wY (ym z) z (wY (yx z z) z (wY (yx z z) z (WL.alloc (O := b7) 16 [vi 0, vu 0, vi 0, Value.slice none 0 0, vi 0, Value.slice none 0 0] ty30 z z ?_)))
        intro dl b8 js I fq
        have bB := fo.f I z
        have fr := h
        obtain ⟨ar, au, av, rfl⟩ := bB.shape
        have h := fr
        have bC := fp.f I z
        have fs := h
        obtain ⟨aw, ax, ay, rfl⟩ := bC.shape
        have h := fs
        refine WL.store (v := ag [vi j.Scale, vu j.Zero, vi j.Pos.Offset, (Value.slice ar au av), vi j.Neg.Offset, (Value.slice aw ax ay)]) (cells' := [vi j.Scale, vu j.Zero, vi j.Pos.Offset, (Value.slice ar au av), vi j.Neg.Offset, (Value.slice aw ax ay)]) ty30 z z fq z (le_ z) z z ?_
        intro ft m cJ
        refine wY (ya z) z (nl (th (sq (rg (wY (ym z) z (wY (Y.eql_i z z) z (wY (ym z) z ?_)))))))
        obtain ⟨h5, h, fu⟩ := bnd h
        refine WL.cut 4 (σ := (Bool × Own)) (fun x w' => x.1 = h5 ∧ Stp [] b8 ft x.2 w') (fun x => [(7, pt q 0), (15, pt dl 0), (143, vB x.1)]) ?_ ?_
        ·rcases cnd h with ⟨bD, h⟩ | ⟨bD, h⟩
         ·refine WL.ren 139 z (congrArg vB bD) (ug z z ?_)
          have fv := cC.st G z
          have fw := fv.st H z
          have fx := fw.st W z
          have fy := fx.st I z
          have fz := fy.st m z
          refine wY (yL ty30 z z (fz.cells 0 [vi b3, vu b4, vi b5, df, vi b6, dg] z) z) z (ug z z (wY (yL ty30 z z (cJ.cells 0 [vi j.Scale, vu j.Zero, vi j.Pos.Offset, (Value.slice ar au av), vi j.Neg.Offset, (Value.slice aw ax ay)] z) z) z (ug z z ?_)))
          have fA := cz.f G z
          have fB := fA.f H z
          have fC := fB.f W z
          have fD := fC.f I z
          have fF := fD.f m z
          have fG := cA.f G z
          have fH := fG.f H z
          have fI := fH.f W z
          have fJ := fI.f I z
          have fK := fJ.f m z
          have fL := bB.f m z
          have fN := bC.f m z
          obtain ⟨h6, fO, h⟩ := bnd h
          refine WL.call (vals := [ag [vi b3, vu b4, vi b5, df, vi b6, dg], ag [vi j.Scale, vu j.Zero, vi j.Pos.Offset, (Value.slice ar au av), vi j.Neg.Offset, (Value.slice aw ax ay)]]) kok26 z z (c_ref08_Same (A := fun _ => True) (a0 := (api_Hist.mk b3 b4 (api_Side.mk b5 hW) (api_Side.mk b6 hX))) (a1 := j) (Sl.all fF) (Sl.all fK) (Sl.all fL) (Sl.all fN) fO) ?_
          rintro jt ju ⟨rfl, fP⟩
          obtain ⟨h7, ik, il, dm⟩ := adoptE b8 (fun k => 1) fP
          refine wY (Y.pick (b := true) z z) z ?_
          exact nl (At.join (σ := (Bool × Own)) (h6, h7) ⟨some1 h, (su_ dm z)⟩ (.cons z (.cons z (.cons z .nil))))
         ·refine WL.ren 139 z (congrArg vB bD) (WL.gS z z z z (WL.gS z z z z (WL.gS z z z z (wY (Y.pick (b := false) z z) z ?_))))
          exact nl (At.join (σ := (Bool × Own)) (false, b8) ⟨some1 h, (sr_ _ _ _)⟩ (.cons z (.cons z (.cons z .nil))))
        ·rintro ⟨h8, b9⟩ fQ ⟨rfl, K⟩
         replace h := fu
         try dsimp only at h K
         refine (show WL _ _ _ _ _ [(7, pt q 0), (15, pt dl 0), (143, vB h8)] _ from ?_)
         refine wY (ym z) z ?_
         obtain ⟨h9, h, fR⟩ := bnd h
         refine WL.cut 5 (σ := (Bool × Own)) (fun x w' => x.1 = h9 ∧ Stp [] b9 fQ x.2 w') (fun x => [(149, vB x.1)]) ?_ ?_
         ·rcases cnd h with ⟨bE, h⟩ | ⟨bE, h⟩
          ·refine WL.ren 144 z (congrArg vB bE) (ug z z (wY (yf fo32_6 z) z (ug z z ?_)))
           have fT := cH.st W z
           have fU := fT.st I z
           have fV := fU.st m z
           have fY := fV.st K z
           refine wY (yL ty30 z z (fY.cells 6 [vi d.Hist.Scale, vu d.Hist.Zero, vi d.Hist.Pos.Offset, (Value.slice cb cc cd), vi d.Hist.Neg.Offset, (Value.slice ce cf cg)] z) z) z (ug z z ?_)
           have f0 := cJ.st K z
           refine wY (yL ty30 z z (f0.cells 0 [vi j.Scale, vu j.Zero, vi j.Pos.Offset, (Value.slice ar au av), vi j.Neg.Offset, (Value.slice aw ax ay)] z) z) z (ug z z ?_)
           have f1 := cM.f t z
           have f2 := f1.f D z
           have f3 := f2.f E z
           have f4 := f3.f Z z
           have f5 := f4.f G z
           have f6 := f5.f H z
           have f7 := f6.f W z
           have f8 := f7.f I z
           have f9 := f8.f m z
           have ga := f9.f K z
           have gb := cN.f t z
           have gc := gb.f D z
           have gd := gc.f E z
           have ge := gd.f Z z
           have gf := ge.f G z
           have gg := gf.f H z
           have gh := gg.f W z
           have gi := gh.f I z
           have gj := gi.f m z
           have gk := gj.f K z
           have gl := bB.f m z
           have gm := gl.f K z
           have gn := bC.f m z
           have gp := gn.f K z
           obtain ⟨ia, gq, h⟩ := bnd h
           refine WL.call (vals := [ag [vi d.Hist.Scale, vu d.Hist.Zero, vi d.Hist.Pos.Offset, (Value.slice cb cc cd), vi d.Hist.Neg.Offset, (Value.slice ce cf cg)], ag [vi j.Scale, vu j.Zero, vi j.Pos.Offset, (Value.slice ar au av), vi j.Neg.Offset, (Value.slice aw ax ay)]]) kok26 z z (c_ref08_Same (A := fun _ => True) (a0 := d.Hist) (a1 := j) (Sl.all ga) (Sl.all gk) (Sl.all gm) (Sl.all gp) gq) ?_
           rintro jv jw ⟨rfl, gr⟩
           obtain ⟨ib, im, io, dn⟩ := adoptE b9 (fun k => 1) gr
           refine wY (Y.pick (b := true) z z) z ?_
           exact nl (At.join (σ := (Bool × Own)) (ia, ib) ⟨some1 h, (su_ dn z)⟩ (.cons z .nil))
          ·refine WL.ren 144 z (congrArg vB bE) (WL.gS z z z z (WL.gS z z z z (WL.gS z z z z (WL.gS z z z z (wY (Y.pick (b := false) z z) z ?_)))))
           exact nl (At.join (σ := (Bool × Own)) (false, b9) ⟨some1 h, (sr_ _ _ _)⟩ (.cons z .nil))
         ·rintro ⟨ic, ie⟩ gs ⟨rfl, bK⟩
          replace h := fR
          try dsimp only at h bK
          refine (show WL _ _ _ _ _ [(149, vB ic)] _ from ?_)
          refine wY (ya z) z (nl (th (rt ?_)))
          obtain rfl := some1 h
          have gt : Stp [11, 12, 13, 14, 15, 16, 1001] (Lg.O0 A) w ie gs := (tr_ (su_ X z) (tr_ (su_ M z) (tr_ (su_ af z) (tr_ (su_ P z) (tr_ (su_ t z) (tr_ (su_ D z) (tr_ (su_ E z) (tr_ (su_ Z z) (tr_ (su_ G z) (tr_ (su_ H z) (tr_ (su_ W z) (tr_ (su_ I z) (tr_ (su_ m z) (tr_ (su_ K z) (su_ bK z)))))))))))))))
          exact At.res (.inl z) z (.tmp z .nil) ⟨z, (se_ gt z z)⟩
end Go.Lg
