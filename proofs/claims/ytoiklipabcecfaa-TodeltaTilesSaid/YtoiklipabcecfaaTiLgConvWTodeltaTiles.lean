/- The walks of TodeltaTiles and of what it calls, printed by gen.py. -/
import Derived.Test.YtoiklipabcecfaaTiLgConvWTodeltaTilesx1
set_option linter.unusedVariables false
namespace Go.Lg
open Go Go.Proofs
set_option maxRecDepth 100000
set_option maxHeartbeats 4000000
theorem c_ref12_Light {A : Nat → Prop} {v0_1 : Value} {v0_13 : Value} {v0_15 : Value} {a0 : api_Point} {w : World} (hs0_1 : Sl rep_api_Pair w A v0_1 a0.Attrs) (hs0_13 : Sl Rep.u w A v0_13 a0.Hist.Pos.Counts) (hs0_15 : Sl Rep.u w A v0_15 a0.Hist.Neg.Counts) {r0 : Bool} (h : ref12_Light a0 = some r0) : Rets Try.prog 17 [ag [vs a0.Name, v0_1, vi a0.Kind, vi a0.Temp, vB a0.Mono, vi a0.Start, vi a0.Time, vi a0.Int_, vu a0.Re, vu a0.Im, vi a0.Hist.Scale, vu a0.Hist.Zero, vi a0.Hist.Pos.Offset, v0_13, vi a0.Hist.Neg.Offset, v0_15, vi a0.Flags]] w (fun v w' => v = vB r0 ∧ Ext w w') := by
 unfold ref12_Light at h
 refine Rets.enter Try.func17 z z ?_
 have m : Sl rep_api_Pair w (imm (Lg.O0 A)) v0_1 a0.Attrs := (Sl.start hs0_1)
 have n : Sl Rep.u w (imm (Lg.O0 A)) v0_13 a0.Hist.Pos.Counts := (Sl.start hs0_13)
 have o : Sl Rep.u w (imm (Lg.O0 A)) v0_15 a0.Hist.Neg.Counts := (Sl.start hs0_15)
 refine (show WC _ _ _ _ [(0, ag [vs a0.Name, v0_1, vi a0.Kind, vi a0.Temp, vB a0.Mono, vi a0.Start, vi a0.Time, vi a0.Int_, vu a0.Re, vu a0.Im, vi a0.Hist.Scale, vu a0.Hist.Zero, vi a0.Hist.Pos.Offset, v0_13, vi a0.Hist.Neg.Offset, v0_15, vi a0.Flags])] _ from ?_)
 refine sq (rg ?_)
 have M := h
 obtain ⟨I, J, K, rfl⟩ := m.shape
 have h := M
 have P := h
 obtain ⟨p, q, r, rfl⟩ := n.shape
 have h := P
 have Q := h
 obtain ⟨t, C, D, rfl⟩ := o.shape
 have h := Q
 refine WL.box (O := (Lg.O0 A)) 11 [vs a0.Name, (Value.slice I J K), vi a0.Kind, vi a0.Temp, vB a0.Mono, vi a0.Start, vi a0.Time, vi a0.Int_, vu a0.Re, vu a0.Im, vi a0.Hist.Scale, vu a0.Hist.Zero, vi a0.Hist.Pos.Offset, (Value.slice p q r), vi a0.Hist.Neg.Offset, (Value.slice t C D), vi a0.Flags] z z z ?_
 intro L E S c d
 refine wY (ya z) z (nl (th (sq (rg (wY (yf fo37_0 z) z (wY (yl ty9 z z (d.cell 0 _ z)) z (wY (Y.len_s ty9 z) z (wY (Y.leq_i z z) z (wY (ym z) z ?_)))))))))
 obtain ⟨ak, h, T⟩ := bnd h
 refine WL.cut 4 (σ := (Bool × Own)) (fun x w' => x.1 = ak ∧ Stp [] E S x.2 w') (fun x => [(1, pt L 0), (11, vB x.1)]) ?_ ?_
 ·rcases cnd h with ⟨e, h⟩ | ⟨e, h⟩
  ·refine WL.ren 7 z (congrArg vB e) (ug z z (wY (yf fo37_1 z) z (ug z z (wY (yl ty35 z z (d.cell 1 _ z)) z (ug z z ?_)))))
   have U := m.i c z z
   obtain ⟨al, V, h⟩ := bnd h
   refine WL.call (vals := [(Value.slice I J K)]) kok42 z z (c_ref11_Light (A := fun _ => True) (Sl.all U) V) ?_
   rintro az aA ⟨rfl, W⟩
   obtain ⟨am, an, ao, G⟩ := adoptE E (fun k => 1) W
   refine wY (Y.pick (b := true) z z) z ?_
   exact nl (At.join (σ := (Bool × Own)) (al, am) ⟨some1 h, (su_ G z)⟩ (.cons z (.cons z .nil)))
  ·refine WL.ren 7 z (congrArg vB e) (WL.gS z z z z (WL.gS z z z z (WL.gS z z z z (wY (Y.pick (b := false) z z) z ?_))))
   exact nl (At.join (σ := (Bool × Own)) (false, E) ⟨some1 h, (sr_ _ _ _)⟩ (.cons z (.cons z .nil)))
 ·rintro ⟨ap, F⟩ X ⟨rfl, a⟩
  replace h := T
  try dsimp only at h a
  refine (show WL _ _ _ _ _ [(1, pt L 0), (11, vB ap)] _ from ?_)
  refine wY (ym z) z ?_
  obtain ⟨aq, h, Z⟩ := bnd h
  refine WL.cut 4 (σ := (Bool × Own)) (fun x w' => x.1 = aq ∧ Stp [] F X x.2 w') (fun x => [(16, vB x.1)]) ?_ ?_
  ·rcases cnd h with ⟨j, h⟩ | ⟨j, h⟩
   ·refine WL.ren 12 z (congrArg vB j) (ug z z (wY (yf fo37_10 z) z (ug z z ?_)))
    have aa := d.st a z
    refine wY (yL ty30 z z (aa.cells 10 [vi a0.Hist.Scale, vu a0.Hist.Zero, vi a0.Hist.Pos.Offset, (Value.slice p q r), vi a0.Hist.Neg.Offset, (Value.slice t C D)] z) z) z (ug z z ?_)
    have ab := n.i c z z
    have ac := ab.i a z z
    have ad := o.i c z z
    have ae := ad.i a z z
    obtain ⟨ar, af, h⟩ := bnd h
    refine WL.call (vals := [ag [vi a0.Hist.Scale, vu a0.Hist.Zero, vi a0.Hist.Pos.Offset, (Value.slice p q r), vi a0.Hist.Neg.Offset, (Value.slice t C D)]]) kok18 z z (c_ref08_Light (A := fun _ => True) (a0 := a0.Hist) (Sl.all ac) (Sl.all ae) af) ?_
    rintro aC aD ⟨rfl, ah⟩
    obtain ⟨au, av, aw, H⟩ := adoptE F (fun k => 1) ah
    refine wY (Y.pick (b := true) z z) z ?_
    exact nl (At.join (σ := (Bool × Own)) (ar, au) ⟨some1 h, (su_ H z)⟩ (.cons z .nil))
   ·refine WL.ren 12 z (congrArg vB j) (WL.gS z z z z (WL.gS z z z z (WL.gS z z z z (wY (Y.pick (b := false) z z) z ?_))))
    exact nl (At.join (σ := (Bool × Own)) (false, F) ⟨some1 h, (sr_ _ _ _)⟩ (.cons z .nil))
  ·rintro ⟨ax, ay⟩ ai ⟨rfl, l⟩
   replace h := Z
   try dsimp only at h l
   refine (show WL _ _ _ _ _ [(16, vB ax)] _ from ?_)
   refine wY (ya z) z (nl (th (rt ?_)))
   obtain rfl := some1 h
   have aj : Stp [] (Lg.O0 A) w ay ai := (tr_ (su_ c z) (tr_ (su_ a z) (su_ l z)))
   exact At.res (.inl z) z (.tmp z .nil) ⟨z, (se_ aj z z)⟩
theorem c_ref12_Some {A : Nat → Prop} {a0 : List api_Point} {v0 : Value} {a1 : Int} {w : World} (hs0 : Sl rep_api_Point w A v0 a0) {r0 : Bool} (h : ref12_Some a0 a1 = some r0) : Rets Try.prog 34 [v0, vi a1] w (fun v w' => v = vB r0 ∧ Ext w w') := by
 unfold ref12_Some at h
 refine Rets.enter Try.func34 z z ?_
 have o : Sl rep_api_Point w (imm (Lg.O0 A)) v0 a0 := (Sl.start hs0)
 refine (show WC _ _ _ _ [(0, v0), (1, vi a1)] _ from ?_)
 refine sq (rg (wY (ya z) z (nl (th (sq (sq (rg (wY (ym z) z (wY (Y.len ty22 z o) z ?_)))))))))
 refine wY (ym z) z (wY (Y.gtr_i z z) z (nl (th ?_)))
 rcases cnd h with ⟨d, h⟩ | ⟨d, h⟩
 ·refine WC.condT' z d (sq (rg (wY (ya z) z (nl (th (rt (At.thenR ?_)))))))
  obtain rfl := some1 h
  have K : Stp [] (Lg.O0 A) w (Lg.O0 A) w := (sr_ _ _ _)
  exact At.res (.inl z) z (.tmp z .nil) ⟨z, (se_ K z z)⟩
 ·refine WC.condF' z d (sk (th (sq (sq (rg (wY (ya z) z (nl (th (WC.block ?_)))))))))
  obtain ⟨D, h, p⟩ := flow1 h
  obtain ⟨E, h⟩ := loop_some h
  refine WC.joinB 0 (σ := Own) (fun x w' => D = .go () ∧ Stp [] (Lg.O0 A) w x w') (fun x => []) ?_ ?_
  ·refine WC.loop (σ := (Int × Own)) (fun x k w' => loopN k (ref12_Some_lp1 a0) x.1 = some D ∧ Stp [] (Lg.O0 A) w x.2 w') (fun x => [(0, v0), (5, vi x.1)]) (0, (Lg.O0 A)) E (.cons z (.cons z .nil)) ⟨h, (sr_ _ _ _)⟩ ?_
   rintro ⟨ae, F⟩ E an ⟨h, c⟩
   obtain ⟨af, aq, rfl, h, e⟩ := rnd1 h
   unfold ref12_Some_lp1 at h
   try dsimp only at h c
   refine (show WC _ _ _ _ [(0, v0), (5, vi ae)] _ from ?_)
   refine sq (sq (rg (wY (ym z) z (wY (ym z) z ?_))))
   have q := o.i c z z
   refine wY (Y.len ty22 z q) z (wY (Y.lss_i z z) z (nl (th ?_)))
   rcases cnd h with ⟨j, h⟩ | ⟨j, h⟩
   ·refine WC.condT' z j (sk (th (sq (WC.block (sq (rg (wY (ym z) z (wY (ym z) z ?_))))))))
    obtain ⟨a, L, h⟩ := bnd h
    obtain ⟨ar, al, am, ao, M, P, Q, l, r, S⟩ := Sl.at2 q L
    obtain ⟨_, _, rfl, rfl, ⟨_, _, rfl, ⟨G, rfl, T⟩, ⟨_, _, rfl, rfl, ⟨_, _, rfl, rfl, ⟨_, _, rfl, rfl, ⟨_, _, rfl, rfl, ⟨_, _, rfl, rfl, ⟨_, _, rfl, rfl, ⟨_, _, rfl, rfl, ⟨_, _, rfl, rfl, ⟨_, _, rfl, ⟨_, _, rfl, rfl, ⟨_, _, rfl, rfl, ⟨_, _, rfl, ⟨_, _, rfl, rfl, ⟨H, rfl, U⟩⟩, ⟨_, _, rfl, rfl, ⟨I, rfl, V⟩⟩⟩⟩⟩, rfl⟩⟩⟩⟩⟩⟩⟩⟩⟩⟩⟩ := r
    replace l : CellsAt _ _ _ [vs a.Name, G, vi a.Kind, vi a.Temp, vB a.Mono, vi a.Start, vi a.Time, vi a.Int_, vu a.Re, vu a.Im, vi a.Hist.Scale, vu a.Hist.Zero, vi a.Hist.Pos.Offset, H, vi a.Hist.Neg.Offset, I, vi a.Flags] := l
    have t := CAt.imm l S
    refine wY (Y.indexAddr ty22 ty37 z M z P Q) z (wY (yL ty37 z z t.at_ z) z ?_)
    obtain ⟨au, W, h⟩ := bnd h
    refine WL.call (vals := [ag [vs a.Name, G, vi a.Kind, vi a.Temp, vB a.Mono, vi a.Start, vi a.Time, vi a.Int_, vu a.Re, vu a.Im, vi a.Hist.Scale, vu a.Hist.Zero, vi a.Hist.Pos.Offset, H, vi a.Hist.Neg.Offset, I, vi a.Flags]]) kok17 z z (c_ref12_Light (A := fun _ => True) (a0 := a) (Sl.all T) (Sl.all U) (Sl.all V) W) ?_
    rintro ap X ⟨rfl, Z⟩
    obtain ⟨J, ah, ai, n⟩ := adoptE F (fun k => 1) Z
    refine wY (Y.not z) z (nl (th ?_))
    rcases cnd h with ⟨m, h⟩ | ⟨m, h⟩
    ·refine WC.condT' z m (sq (rg (wY (ya z) z (nl (th (rt (At.inBlockR (At.thenR (At.loopR ?_)))))))))
     have h := outr1 h e p
     refine At.joinBR (At.inBlockR (At.thenR ?_))
     obtain rfl := some1 h
     have aa : Stp [] (Lg.O0 A) w J X := (tr_ (su_ c z) (su_ n z))
     exact At.res (.inl z) z (.tmp z .nil) ⟨z, (se_ aa z z)⟩
    ·refine WC.condF' z m (sk (At.inBlock (th (rg (wY (ym z) z (wY (Y.add_i z z) z ?_))))))
     obtain ⟨aj, ab, h⟩ := lt1 h
     refine WL.yE (ya z) (congrArg vi ab.symm) z (nl ?_)
     exact At.round (aj, J) af (Nat.lt_succ_self _) ⟨next1 h e, (tr_ (su_ c z) (su_ n z))⟩ (.cons z (.cons z .nil))
   ·refine WC.condF' z j (WC.exit (At.thenX (At.loopX ?_)))
    exact At.hitB (σ := Own) F ⟨brk1 h e, (su_ c z)⟩ .nil
  ·rintro ak ac ⟨rfl, C⟩
   replace h := flowK_go p
   refine (show At _ _ _ [] _ from ?_)
   refine At.inBlockHit (th (sq (rg (wY (ya z) z (nl (th (rt ?_)))))))
   obtain rfl := some1 h
   have ad : Stp [] (Lg.O0 A) w ak ac := (su_ C z)
   exact At.res (.inl z) z (.tmp z .nil) ⟨z, (se_ ad z z)⟩
theorem c_law15_one {A : Nat → Prop} {a0 : List api_Point} {v0 : Value} {w : World} (hs0 : Sl rep_api_Point w A v0 a0) {r0 : Bool} (h : law15_one a0 = some r0) : Rets Try.prog 12 [v0] w (fun v w' => v = vB r0 ∧ Ext w w') := by
 unfold law15_one at h
 refine Rets.enter Try.func12 z z ?_
 have K : Sl rep_api_Point w (imm (Lg.O0 A)) v0 a0 := (Sl.start hs0)
 refine (show WC _ _ _ _ [(0, v0)] _ from ?_)
 refine sq (rg (wY (ya z) z (nl (th (sq (sq (rg (wY (ym z) z ?_))))))))
 obtain ⟨bR, aD, h⟩ := bnd h
 refine WL.call (vals := [v0, vi 20]) kok34 z z (c_ref12_Some (A := fun _ => True) (Sl.all K) aD) ?_
 rintro bA C ⟨rfl, aE⟩
 obtain ⟨I, a4, a5, m⟩ := adoptE (Lg.O0 A) (fun k => 1) aE
 refine wY (Y.not z) z (nl (th ?_))
 rcases cnd h with ⟨D, h⟩ | ⟨D, h⟩
 ·refine WC.condT' z D (sq (rg (wY (ya z) z (nl (th (rt (At.thenR ?_)))))))
  obtain rfl := some1 h
  have aF : Stp [] (Lg.O0 A) w I C := (su_ m z)
  exact At.res (.inl z) z (.tmp z .nil) ⟨z, (se_ aF z z)⟩
 ·refine WC.condF' z D (sk (th (sq (sq (rg (wY (ya z) z (nl (th (WC.block ?_)))))))))
  obtain ⟨aA, h, L⟩ := flow1 h
  obtain ⟨aC, h⟩ := loop_some h
  refine WC.joinB 0 (σ := Own) (fun x w' => aA = .go () ∧ Stp [] I C x w') (fun x => []) ?_ ?_
  ·refine WC.loop (σ := (Int × Own)) (fun x k w' => loopN k (law15_one_lp1 a0) x.1 = some aA ∧ Stp [] I C x.2 w') (fun x => [(0, v0), (3, vi x.1)]) (0, I) aC (.cons z (.cons z .nil)) ⟨h, (sr_ _ _ _)⟩ ?_
   rintro ⟨M, t⟩ aC bB ⟨h, j⟩
   obtain ⟨a6, bS, rfl, h, E⟩ := rnd1 h
   unfold law15_one_lp1 at h
   try dsimp only at h j
   refine (show WC _ _ _ _ [(0, v0), (3, vi M)] _ from ?_)
   refine sq (sq (rg (wY (ym z) z (wY (ym z) z ?_))))
   have aG := K.i m z z
   have P := aG.i j z z
   refine wY (Y.len ty22 z P) z (wY (Y.lss_i z z) z (nl (th ?_)))
   rcases cnd h with ⟨F, h⟩ | ⟨F, h⟩
   ·refine WC.condT' z F (sk (th (sq (WC.block (sq (WC.drawH [] [0, 1, 2, 3, 4, 5, 6, 7, 8, 9, 10, 11, 12, 13, 14, 15, 16, 17, 18, 19, 20, 21] t 22 fmix z (by kernel_rfl) ?_))))))
    intro Q n
    refine WD.y 0 z (by kernel_rfl) (fun _ _ _ => ym z) z (WD.y 1 z (by kernel_rfl) (fun _ _ _ => ym z) z ?_)
    obtain ⟨d, aH, h⟩ := bnd h
    have o := P.i n z z
    obtain ⟨bT, bj, bk, bC, aI, aJ, aK, G, aa, aL⟩ := Sl.at2 o aH
    obtain ⟨_, _, rfl, rfl, ⟨_, _, rfl, ⟨a7, rfl, bD⟩, ⟨_, _, rfl, rfl, ⟨_, _, rfl, rfl, ⟨_, _, rfl, rfl, ⟨_, _, rfl, rfl, ⟨_, _, rfl, rfl, ⟨_, _, rfl, rfl, ⟨_, _, rfl, rfl, ⟨_, _, rfl, rfl, ⟨_, _, rfl, ⟨_, _, rfl, rfl, ⟨_, _, rfl, rfl, ⟨_, _, rfl, ⟨_, _, rfl, rfl, ⟨a8, rfl, bE⟩⟩, ⟨_, _, rfl, rfl, ⟨a9, rfl, bF⟩⟩⟩⟩⟩, rfl⟩⟩⟩⟩⟩⟩⟩⟩⟩⟩⟩ := aa
    replace G : CellsAt _ _ _ [vs d.Name, a7, vi d.Kind, vi d.Temp, vB d.Mono, vi d.Start, vi d.Time, vi d.Int_, vu d.Re, vu d.Im, vi d.Hist.Scale, vu d.Hist.Zero, vi d.Hist.Pos.Offset, a8, vi d.Hist.Neg.Offset, a9, vi d.Flags] := G
    have ab := CAt.imm G aL
    refine WD.y 2 z (by kernel_rfl) (fun _ _ _ => Y.indexAddr ty22 ty37 z aI z aJ aK) z (WD.y 3 z (by kernel_rfl) (fun _ _ _ => yf fo37_2 z) z (WD.y 4 z (by kernel_rfl) (fun bG bU ac => have aM := ab.st ac z; yl ty3 z z (aM.at_.sub 2 [vi d.Kind] z)) z (WD.y 5 z (by kernel_rfl) (fun _ _ _ => ym z) z ?_)))
    obtain ⟨e, aN, h⟩ := bnd h
    obtain ⟨bW, bl, bm, bH, aO, aP, aQ, H, ad, aR⟩ := Sl.at2 o aN
    obtain ⟨_, _, rfl, rfl, ⟨_, _, rfl, ⟨ba, rfl, bI⟩, ⟨_, _, rfl, rfl, ⟨_, _, rfl, rfl, ⟨_, _, rfl, rfl, ⟨_, _, rfl, rfl, ⟨_, _, rfl, rfl, ⟨_, _, rfl, rfl, ⟨_, _, rfl, rfl, ⟨_, _, rfl, rfl, ⟨_, _, rfl, ⟨_, _, rfl, rfl, ⟨_, _, rfl, rfl, ⟨_, _, rfl, ⟨_, _, rfl, rfl, ⟨bb, rfl, bJ⟩⟩, ⟨_, _, rfl, rfl, ⟨bc, rfl, bK⟩⟩⟩⟩⟩, rfl⟩⟩⟩⟩⟩⟩⟩⟩⟩⟩⟩ := ad
    replace H : CellsAt _ _ _ [vs e.Name, ba, vi e.Kind, vi e.Temp, vB e.Mono, vi e.Start, vi e.Time, vi e.Int_, vu e.Re, vu e.Im, vi e.Hist.Scale, vu e.Hist.Zero, vi e.Hist.Pos.Offset, bb, vi e.Hist.Neg.Offset, bc, vi e.Flags] := H
    have ae := CAt.imm H aR
    refine WD.y 6 z (by kernel_rfl) (fun _ _ _ => Y.indexAddr ty22 ty37 z aO z aP aQ) z (WD.y 7 z (by kernel_rfl) (fun _ _ _ => yf fo37_2 z) z (WD.y 8 z (by kernel_rfl) (fun bn bL S => have af := ae.st S z; yl ty3 z z (af.at_.sub 2 [vi e.Kind] z)) z (WD.y 9 z (by kernel_rfl) (fun _ _ _ => Y.neq_i z z) z (WD.y 10 z (by kernel_rfl) (fun _ _ _ => ym z) z ?_))))
    obtain ⟨aS, h, ah⟩ := bnd h
    refine WD.join (σ := Bool) (f' := 0) [21, 20, 19, 18, 17, 16, 15, 14, 13, 12, 11, 10, 9, 8, 7, 6, 5, 4, 3, 2, 1, 0] (fun x O' w' => x = aS ∧ Q = w' ∧ t = O') (fun x => [(0, v0), (3, vi M), (34, vB x)]) (fun J => ?_) ?_
    ·rcases cnd h with ⟨l, h⟩ | ⟨l, h⟩
     ·refine WD.ren 23 z (congrArg vB l) (WD.gS 11 z (by kernel_rfl) z z z z (WD.gS 12 z (by kernel_rfl) z z z z (WD.gS 13 z (by kernel_rfl) z z z z (WD.gS 14 z (by kernel_rfl) z z z z (WD.gS 15 z (by kernel_rfl) z z z z (WD.gS 16 z (by kernel_rfl) z z z z (WD.gS 17 z (by kernel_rfl) z z z z (WD.gS 18 z (by kernel_rfl) z z z z (WD.gS 19 z (by kernel_rfl) z z z z ?_)))))))))
      refine WD.gS 20 z (by kernel_rfl) z z z z (WD.y 21 z (by kernel_rfl) (fun _ _ _ => Y.pick (b := true) z z) z (WD.ren 23 z (congrArg vB l.symm) ?_))
      exact J true _ _ _ ⟨some1 h, z, z⟩ (.cons z (.cons z (.cons z .nil)))
     ·refine WD.ren 23 z (congrArg vB l) (WD.gT 11 z (by kernel_rfl) z z (fun _ _ _ => ym z) z (WD.gT 12 z (by kernel_rfl) z z (fun _ _ _ => ym z) z ?_))
      obtain ⟨a, ai, h⟩ := bnd h
      obtain ⟨bM, bd, bf, bo, aj, ak, al, p, T, am⟩ := Sl.at2 o ai
      obtain ⟨_, _, rfl, rfl, ⟨_, _, rfl, ⟨aT, rfl, bp⟩, ⟨_, _, rfl, rfl, ⟨_, _, rfl, rfl, ⟨_, _, rfl, rfl, ⟨_, _, rfl, rfl, ⟨_, _, rfl, rfl, ⟨_, _, rfl, rfl, ⟨_, _, rfl, rfl, ⟨_, _, rfl, rfl, ⟨_, _, rfl, ⟨_, _, rfl, rfl, ⟨_, _, rfl, rfl, ⟨_, _, rfl, ⟨_, _, rfl, rfl, ⟨aU, rfl, bq⟩⟩, ⟨_, _, rfl, rfl, ⟨aW, rfl, br⟩⟩⟩⟩⟩, rfl⟩⟩⟩⟩⟩⟩⟩⟩⟩⟩⟩ := T
      replace p : CellsAt _ _ _ [vs a.Name, aT, vi a.Kind, vi a.Temp, vB a.Mono, vi a.Start, vi a.Time, vi a.Int_, vu a.Re, vu a.Im, vi a.Hist.Scale, vu a.Hist.Zero, vi a.Hist.Pos.Offset, aU, vi a.Hist.Neg.Offset, aW, vi a.Flags] := p
      have U := CAt.imm p am
      refine WD.gT 13 z (by kernel_rfl) z z (fun _ _ _ => Y.indexAddr ty22 ty37 z aj z ak al) z (WD.gT 14 z (by kernel_rfl) z z (fun _ _ _ => yf fo37_4 z) z (WD.gT 15 z (by kernel_rfl) z z (fun bs bO V => have an := U.st V z; yl ty4 z z (an.at_.sub 4 [vB a.Mono] z)) z (WD.gT 16 z (by kernel_rfl) z z (fun _ _ _ => ym z) z ?_)))
      obtain ⟨c, ao, h⟩ := bnd h
      obtain ⟨bP, bg, bh, bt, ap, aq, ar, q, W, au⟩ := Sl.at2 o ao
      obtain ⟨_, _, rfl, rfl, ⟨_, _, rfl, ⟨aX, rfl, bu⟩, ⟨_, _, rfl, rfl, ⟨_, _, rfl, rfl, ⟨_, _, rfl, rfl, ⟨_, _, rfl, rfl, ⟨_, _, rfl, rfl, ⟨_, _, rfl, rfl, ⟨_, _, rfl, rfl, ⟨_, _, rfl, rfl, ⟨_, _, rfl, ⟨_, _, rfl, rfl, ⟨_, _, rfl, rfl, ⟨_, _, rfl, ⟨_, _, rfl, rfl, ⟨aY, rfl, bw⟩⟩, ⟨_, _, rfl, rfl, ⟨aZ, rfl, bx⟩⟩⟩⟩⟩, rfl⟩⟩⟩⟩⟩⟩⟩⟩⟩⟩⟩ := W
      replace q : CellsAt _ _ _ [vs c.Name, aX, vi c.Kind, vi c.Temp, vB c.Mono, vi c.Start, vi c.Time, vi c.Int_, vu c.Re, vu c.Im, vi c.Hist.Scale, vu c.Hist.Zero, vi c.Hist.Pos.Offset, aY, vi c.Hist.Neg.Offset, aZ, vi c.Flags] := q
      have X := CAt.imm q au
      refine WD.gT 17 z (by kernel_rfl) z z (fun _ _ _ => Y.indexAddr ty22 ty37 z ap z aq ar) z (WD.gT 18 z (by kernel_rfl) z z (fun _ _ _ => yf fo37_4 z) z (WD.gT 19 z (by kernel_rfl) z z (fun bz bQ Z => have av := X.st Z z; yl ty4 z z (av.at_.sub 4 [vB c.Mono] z)) z (WD.gT 20 z (by kernel_rfl) z z (fun _ _ _ => Y.neqB z z ty4.u) z (WD.y 21 z (by kernel_rfl) (fun _ _ _ => Y.pick (b := false) z z) z (WD.ren 23 z (congrArg vB l.symm) ?_)))))
      exact J (!decide (a.Mono = c.Mono)) _ _ _ ⟨some1 h, z, z⟩ (.cons z (.cons z (.cons z .nil)))
    ·rintro a1 _ _ ⟨rfl, rfl, rfl⟩
     replace h := ah
     try dsimp only at h
     refine (show WD _ _ _ _ _ _ _ _ [(0, v0), (3, vi M), (34, vB a1)] _ _ from ?_)
     refine WD.done_ (by kernel_rfl) (th ?_)
     rcases cnd h with ⟨r, h⟩ | ⟨r, h⟩
     ·refine WC.condT' z r (sq (rg (wY (ya z) z (nl (th (rt (At.inBlockR (At.thenR (At.loopR ?_)))))))))
      have h := outr1 h E L
      refine At.joinBR (At.inBlockR (At.thenR ?_))
      obtain rfl := some1 h
      have aw : Stp [] (Lg.O0 A) w t Q := (tr_ (su_ m z) (tr_ (su_ j z) (su_ n z)))
      exact At.res (.inl z) z (.tmp z .nil) ⟨z, (se_ aw z z)⟩
     ·refine WC.condF' z r (sk (At.inBlock (th (rg (wY (ym z) z (wY (Y.add_i z z) z ?_))))))
      obtain ⟨a2, ax, h⟩ := lt1 h
      refine WL.yE (ya z) (congrArg vi ax.symm) z (nl ?_)
      exact At.round (a2, t) a6 (Nat.lt_succ_self _) ⟨next1 h E, (tr_ (su_ j z) (su_ n z))⟩ (.cons z (.cons z .nil))
   ·refine WC.condF' z F (WC.exit (At.thenX (At.loopX ?_)))
    exact At.hitB (σ := Own) t ⟨brk1 h E, (su_ j z)⟩ .nil
  ·rintro bi a3 ⟨rfl, ay⟩
   replace h := flowK_go L
   refine (show At _ _ _ [] _ from ?_)
   refine At.inBlockHit (th (sq (rg (wY (ya z) z (nl (th (rt ?_)))))))
   obtain rfl := some1 h
   have az : Stp [] (Lg.O0 A) w bi a3 := (tr_ (su_ m z) (su_ ay z))
   exact At.res (.inl z) z (.tmp z .nil) ⟨z, (se_ az z z)⟩
theorem c_law15_play {A : Nat → Prop} {a0 : List api_Point} {v0 : Value} {a1 : Int} {w : World} (hs0 : Sl rep_api_Point w A v0 a0) {r0 : List api_Point} {r1 : List api_Point} {r2 : api_State} (h : law15_play a0 a1 = some (r0, r1, r2)) : Rets Try.prog 13 [v0, vi a1] w (fun v w' => ∃ (u0 : Value) (u1 : Value) (dx : Value) (cO : Value), v = Value.tuple (List.toArray [u0, u1, ag [vB r2.Some, vi r2.Start, vi r2.Time, vi r2.Int_, vu r2.Re, vu r2.Im, vi r2.Hist.Scale, vu r2.Hist.Zero, vi r2.Hist.Pos.Offset, dx, vi r2.Hist.Neg.Offset, cO]]) ∧ Ext w w' ∧ Sl rep_api_Point w' (fun k => A k ∨ w.heap.size ≤ k) u0 r0 ∧ Sl rep_api_Point w' (fun k => A k ∨ w.heap.size ≤ k) u1 r1 ∧ Sl Rep.u w' (fun k => w.heap.size ≤ k) dx r2.Hist.Pos.Counts ∧ Sl Rep.u w' (fun k => w.heap.size ≤ k) cO r2.Hist.Neg.Counts) := by
 unfold law15_play at h
 refine Rets.enter Try.func13 z z ?_
 have lg : Sl rep_api_Point w (imm (Lg.O0 A)) v0 a0 := (Sl.start hs0)
 refine (show WC _ _ _ _ [(0, v0), (1, vi a1)] _ from ?_)
 refine sq (rg (wY (ya z) z (wY (ya z) z (WL.alloc (O := (Lg.O0 A)) 11 [vB false, vi 0, vi 0, vi 0, vu 0, vu 0, vi 0, vu 0, vi 0, Value.slice none 0 0, vi 0, Value.slice none 0 0] ty32 z z ?_))))
 intro bs m3 nY cP lh
 refine nl (th (sq (rg (wY (ya z) z (wY (ya z) z (nl (th (sq (rg ?_)))))))))
 refine wY (yb (vals := []) (cells := [vB false, vi 0, vi 0, vi 0, vu 0, vu 0, vi 0, vu 0, vi 0, Value.slice none 0 0, vi 0, Value.slice none 0 0]) (fe_ z) (by kernel_rfl)) z (WL.alloc (O := m3) 12 [vB false, vi 0, vi 0, vi 0, vu 0, vu 0, vi 0, vu 0, vi 0, Value.slice none 0 0, vi 0, Value.slice none 0 0] ty32 z z ?_)
 intro aM cQ nZ ck li
 refine WL.store (v := ag [vB false, vi 0, vi 0, vi 0, vu 0, vu 0, vi 0, vu 0, vi 0, Value.slice none 0 0, vi 0, Value.slice none 0 0]) (cells' := [vB false, vi 0, vi 0, vi 0, vu 0, vu 0, vi 0, vu 0, vi 0, Value.slice none 0 0, vi 0, Value.slice none 0 0]) ty32 z z li z (le_ z) z z ?_
 intro cH cl lj
 refine nl (th (sq (sq (rg (wY (ya z) z (nl (th ?_)))))))
 obtain ⟨m4, h, ll⟩ := bnd h
 refine WC.join (σ := (List api_Point × List api_Point × Bool × Int × Int × Int × UInt64 × UInt64 × Int × UInt64 × Int × List UInt64 × Int × List UInt64 × Own × Value × Value × Value × Value)) (fun x w' => (x.1, x.2.1, x.2.2.1, x.2.2.2.1, x.2.2.2.2.1, x.2.2.2.2.2.1, x.2.2.2.2.2.2.1, x.2.2.2.2.2.2.2.1, x.2.2.2.2.2.2.2.2.1, x.2.2.2.2.2.2.2.2.2.1, x.2.2.2.2.2.2.2.2.2.2.1, x.2.2.2.2.2.2.2.2.2.2.2.1, x.2.2.2.2.2.2.2.2.2.2.2.2.1, x.2.2.2.2.2.2.2.2.2.2.2.2.2.1) = m4 ∧ Stp [12, 13, 14, 15, 16, 17, 18, 19, 20, 21, 22, 24, 26, 1001, 1002, 1005, 1006, 1009, 1010, 1017, 1018] cQ cH x.2.2.2.2.2.2.2.2.2.2.2.2.2.2.1 w' ∧ OwnSl 1035 rep_api_Point 37 x.2.2.2.2.2.2.2.2.2.2.2.2.2.2.1 w' x.2.2.2.2.2.2.2.2.2.2.2.2.2.2.2.1 x.1 ∧ OwnSl 1036 rep_api_Point 37 x.2.2.2.2.2.2.2.2.2.2.2.2.2.2.1 w' x.2.2.2.2.2.2.2.2.2.2.2.2.2.2.2.2.1 x.2.1 ∧ Sl Rep.u w' (frs x.2.2.2.2.2.2.2.2.2.2.2.2.2.2.1) x.2.2.2.2.2.2.2.2.2.2.2.2.2.2.2.2.2.1 x.2.2.2.2.2.2.2.2.2.2.2.1 ∧ Sl Rep.u w' (frs x.2.2.2.2.2.2.2.2.2.2.2.2.2.2.1) x.2.2.2.2.2.2.2.2.2.2.2.2.2.2.2.2.2.2 x.2.2.2.2.2.2.2.2.2.2.2.2.2.1 ∧ Blk 12 x.2.2.2.2.2.2.2.2.2.2.2.2.2.2.1 w' aM 32 [vB x.2.2.1, vi x.2.2.2.1, vi x.2.2.2.2.1, vi x.2.2.2.2.2.1, vu x.2.2.2.2.2.2.1, vu x.2.2.2.2.2.2.2.1, vi x.2.2.2.2.2.2.2.2.1, vu x.2.2.2.2.2.2.2.2.2.1, vi x.2.2.2.2.2.2.2.2.2.2.1, x.2.2.2.2.2.2.2.2.2.2.2.2.2.2.2.2.2.1, vi x.2.2.2.2.2.2.2.2.2.2.2.2.1, x.2.2.2.2.2.2.2.2.2.2.2.2.2.2.2.2.2.2]) (fun x => [(6, pt bs 0), (7, x.2.2.2.2.2.2.2.2.2.2.2.2.2.2.2.1), (8, x.2.2.2.2.2.2.2.2.2.2.2.2.2.2.2.2.1), (9, pt aM 0)]) ?_ ?_
 ·refine WC.block ?_
  obtain ⟨dy, h, ej⟩ := flow1 h
  obtain ⟨dz, h⟩ := loop_some h
  refine WC.joinB 0 (σ := (List api_Point × List api_Point × Bool × Int × Int × Int × UInt64 × UInt64 × Int × UInt64 × Int × List UInt64 × Int × List UInt64 × Own × Value × Value × Value × Value)) (fun x w' => dy = .go (x.1, x.2.1, x.2.2.1, x.2.2.2.1, x.2.2.2.2.1, x.2.2.2.2.2.1, x.2.2.2.2.2.2.1, x.2.2.2.2.2.2.2.1, x.2.2.2.2.2.2.2.2.1, x.2.2.2.2.2.2.2.2.2.1, x.2.2.2.2.2.2.2.2.2.2.1, x.2.2.2.2.2.2.2.2.2.2.2.1, x.2.2.2.2.2.2.2.2.2.2.2.2.1, x.2.2.2.2.2.2.2.2.2.2.2.2.2.1) ∧ Stp [12, 13, 14, 15, 16, 17, 18, 19, 20, 21, 22, 24, 26, 1001, 1002, 1005, 1006, 1009, 1010] cQ cH x.2.2.2.2.2.2.2.2.2.2.2.2.2.2.1 w' ∧ OwnSl 1017 rep_api_Point 37 x.2.2.2.2.2.2.2.2.2.2.2.2.2.2.1 w' x.2.2.2.2.2.2.2.2.2.2.2.2.2.2.2.1 x.1 ∧ OwnSl 1018 rep_api_Point 37 x.2.2.2.2.2.2.2.2.2.2.2.2.2.2.1 w' x.2.2.2.2.2.2.2.2.2.2.2.2.2.2.2.2.1 x.2.1 ∧ Sl Rep.u w' (frs x.2.2.2.2.2.2.2.2.2.2.2.2.2.2.1) x.2.2.2.2.2.2.2.2.2.2.2.2.2.2.2.2.2.1 x.2.2.2.2.2.2.2.2.2.2.2.1 ∧ Sl Rep.u w' (frs x.2.2.2.2.2.2.2.2.2.2.2.2.2.2.1) x.2.2.2.2.2.2.2.2.2.2.2.2.2.2.2.2.2.2 x.2.2.2.2.2.2.2.2.2.2.2.2.2.1 ∧ Blk 12 x.2.2.2.2.2.2.2.2.2.2.2.2.2.2.1 w' aM 32 [vB x.2.2.1, vi x.2.2.2.1, vi x.2.2.2.2.1, vi x.2.2.2.2.2.1, vu x.2.2.2.2.2.2.1, vu x.2.2.2.2.2.2.2.1, vi x.2.2.2.2.2.2.2.2.1, vu x.2.2.2.2.2.2.2.2.2.1, vi x.2.2.2.2.2.2.2.2.2.2.1, x.2.2.2.2.2.2.2.2.2.2.2.2.2.2.2.2.2.1, vi x.2.2.2.2.2.2.2.2.2.2.2.2.1, x.2.2.2.2.2.2.2.2.2.2.2.2.2.2.2.2.2.2]) (fun x => [(6, pt bs 0), (7, x.2.2.2.2.2.2.2.2.2.2.2.2.2.2.2.1), (8, x.2.2.2.2.2.2.2.2.2.2.2.2.2.2.2.2.1), (9, pt aM 0)]) ?_ ?_
  ·refine WC.loop (σ := (List api_Point × List api_Point × Bool × Int × Int × Int × UInt64 × UInt64 × Int × UInt64 × Int × List UInt64 × Int × List UInt64 × Int × Own × Value × Value × Value × Value)) (fun x k w' => loopN k (law15_play_lp1 a0 a1) (x.1, x.2.1, x.2.2.1, x.2.2.2.1, x.2.2.2.2.1, x.2.2.2.2.2.1, x.2.2.2.2.2.2.1, x.2.2.2.2.2.2.2.1, x.2.2.2.2.2.2.2.2.1, x.2.2.2.2.2.2.2.2.2.1, x.2.2.2.2.2.2.2.2.2.2.1, x.2.2.2.2.2.2.2.2.2.2.2.1, x.2.2.2.2.2.2.2.2.2.2.2.2.1, x.2.2.2.2.2.2.2.2.2.2.2.2.2.1, x.2.2.2.2.2.2.2.2.2.2.2.2.2.2.1) = some dy ∧ Stp [12, 13, 14, 15, 16, 17, 18, 19, 20, 21, 22, 24, 26, 1001, 1002, 1005, 1006, 1009, 1010] cQ cH x.2.2.2.2.2.2.2.2.2.2.2.2.2.2.2.1 w' ∧ OwnSl 1009 rep_api_Point 37 x.2.2.2.2.2.2.2.2.2.2.2.2.2.2.2.1 w' x.2.2.2.2.2.2.2.2.2.2.2.2.2.2.2.2.1 x.1 ∧ OwnSl 1010 rep_api_Point 37 x.2.2.2.2.2.2.2.2.2.2.2.2.2.2.2.1 w' x.2.2.2.2.2.2.2.2.2.2.2.2.2.2.2.2.2.1 x.2.1 ∧ Sl Rep.u w' (frs x.2.2.2.2.2.2.2.2.2.2.2.2.2.2.2.1) x.2.2.2.2.2.2.2.2.2.2.2.2.2.2.2.2.2.2.1 x.2.2.2.2.2.2.2.2.2.2.2.1 ∧ Sl Rep.u w' (frs x.2.2.2.2.2.2.2.2.2.2.2.2.2.2.2.1) x.2.2.2.2.2.2.2.2.2.2.2.2.2.2.2.2.2.2.2 x.2.2.2.2.2.2.2.2.2.2.2.2.2.1 ∧ Blk 12 x.2.2.2.2.2.2.2.2.2.2.2.2.2.2.2.1 w' aM 32 [vB x.2.2.1, vi x.2.2.2.1, vi x.2.2.2.2.1, vi x.2.2.2.2.2.1, vu x.2.2.2.2.2.2.1, vu x.2.2.2.2.2.2.2.1, vi x.2.2.2.2.2.2.2.2.1, vu x.2.2.2.2.2.2.2.2.2.1, vi x.2.2.2.2.2.2.2.2.2.2.1, x.2.2.2.2.2.2.2.2.2.2.2.2.2.2.2.2.2.2.1, vi x.2.2.2.2.2.2.2.2.2.2.2.2.1, x.2.2.2.2.2.2.2.2.2.2.2.2.2.2.2.2.2.2.2]) (fun x => [(0, v0), (1, vi a1), (6, pt bs 0), (7, x.2.2.2.2.2.2.2.2.2.2.2.2.2.2.2.2.1), (8, x.2.2.2.2.2.2.2.2.2.2.2.2.2.2.2.2.2.1), (9, pt aM 0), (10, vi x.2.2.2.2.2.2.2.2.2.2.2.2.2.2.1)]) ([], [], false, 0, 0, 0, 0, 0, 0, 0, 0, [], 0, [], 0, cQ, Value.slice none 0 0, Value.slice none 0 0, Value.slice none 0 0, Value.slice none 0 0) dz (.cons z (.cons z (.cons z (.cons z (.cons z (.cons z (.cons z .nil))))))) ⟨h, (sr_ _ _ _), (OwnSl.nil 1009 rep_api_Point 37), (OwnSl.nil 1010 rep_api_Point 37), (Or.inl ⟨z, z⟩), (Or.inl ⟨z, z⟩), lj⟩ ?_
   rintro ⟨cI, cm, aN, aO, aP, aQ, aR, aS, aT, aU, aW, b4, aX, b5, ci, cj, cD, cE, b6, b7⟩ dz lm ⟨h, b8, cn, co, a7, a8, b9⟩
   obtain ⟨ln, n0, rfl, h, cR⟩ := rnd1 h
   unfold law15_play_lp1 at h
   try dsimp only at h b8 cn co a7 a8 b9
   refine (show WC _ _ _ _ [(0, v0), (1, vi a1), (6, pt bs 0), (7, cD), (8, cE), (9, pt aM 0), (10, vi ci)] _ from ?_)
   refine sq (sq (rg (wY (ym z) z (wY (ym z) z ?_))))
   have ek := lg.i cP z z
   have em := ek.i ck z z
   have en := em.i cl z z
   have cS := en.i b8 z z
   refine wY (Y.len ty22 z cS) z (wY (Y.lss_i z z) z (nl (th ?_)))
   rcases cnd h with ⟨cp, h⟩ | ⟨cp, h⟩
   ·refine WC.condT' z cp (sk (th (sq ?_)))
    obtain ⟨lo, h, eo⟩ := bnd h
    refine WC.join (σ := (List api_Point × List api_Point × Bool × Int × Int × Int × UInt64 × UInt64 × Int × UInt64 × Int × List UInt64 × Int × List UInt64 × Own × Value × Value × Value × Value)) (fun x w' => (x.1, x.2.1, x.2.2.1, x.2.2.2.1, x.2.2.2.2.1, x.2.2.2.2.2.1, x.2.2.2.2.2.2.1, x.2.2.2.2.2.2.2.1, x.2.2.2.2.2.2.2.2.1, x.2.2.2.2.2.2.2.2.2.1, x.2.2.2.2.2.2.2.2.2.2.1, x.2.2.2.2.2.2.2.2.2.2.2.1, x.2.2.2.2.2.2.2.2.2.2.2.2.1, x.2.2.2.2.2.2.2.2.2.2.2.2.2.1) = lo ∧ Stp [12, 13, 14, 15, 16, 17, 18, 19, 20, 21, 22, 1001, 1002, 1009, 1010] cj lm x.2.2.2.2.2.2.2.2.2.2.2.2.2.2.1 w' ∧ OwnSl 1005 rep_api_Point 37 x.2.2.2.2.2.2.2.2.2.2.2.2.2.2.1 w' x.2.2.2.2.2.2.2.2.2.2.2.2.2.2.2.1 x.1 ∧ OwnSl 1006 rep_api_Point 37 x.2.2.2.2.2.2.2.2.2.2.2.2.2.2.1 w' x.2.2.2.2.2.2.2.2.2.2.2.2.2.2.2.2.1 x.2.1 ∧ Sl Rep.u w' (frs x.2.2.2.2.2.2.2.2.2.2.2.2.2.2.1) x.2.2.2.2.2.2.2.2.2.2.2.2.2.2.2.2.2.1 x.2.2.2.2.2.2.2.2.2.2.2.1 ∧ Sl Rep.u w' (frs x.2.2.2.2.2.2.2.2.2.2.2.2.2.2.1) x.2.2.2.2.2.2.2.2.2.2.2.2.2.2.2.2.2.2 x.2.2.2.2.2.2.2.2.2.2.2.2.2.1 ∧ Blk 12 x.2.2.2.2.2.2.2.2.2.2.2.2.2.2.1 w' aM 32 [vB x.2.2.1, vi x.2.2.2.1, vi x.2.2.2.2.1, vi x.2.2.2.2.2.1, vu x.2.2.2.2.2.2.1, vu x.2.2.2.2.2.2.2.1, vi x.2.2.2.2.2.2.2.2.1, vu x.2.2.2.2.2.2.2.2.2.1, vi x.2.2.2.2.2.2.2.2.2.2.1, x.2.2.2.2.2.2.2.2.2.2.2.2.2.2.2.2.2.1, vi x.2.2.2.2.2.2.2.2.2.2.2.2.1, x.2.2.2.2.2.2.2.2.2.2.2.2.2.2.2.2.2.2]) (fun x => [(0, v0), (1, vi a1), (6, pt bs 0), (7, x.2.2.2.2.2.2.2.2.2.2.2.2.2.2.2.1), (8, x.2.2.2.2.2.2.2.2.2.2.2.2.2.2.2.2.1), (9, pt aM 0), (10, vi ci)]) ?_ ?_
    ·refine WC.block (sq (WC.drawH [13, 14, 15, 16, 17, 18, 19, 20, 21, 22, 1001, 1002] [0, 1, 2, 3, 4, 5, 6, 7, 8, 9, 10, 11, 12, 13, 14, 15] cj 16 fmix z (by kernel_rfl) ?_))
     intro ep e
     refine WD.y 0 z (by kernel_rfl) (fun nq n3 dA => have er := b9.st e z; have es := er.st dA z; yL ty32 z z (es.cells 0 [vB aN, vi aO, vi aP, vi aQ, vu aR, vu aS, vi aT, vu aU, vi aW, b6, vi aX, b7] z) z) z (WD.y 1 z (by kernel_rfl) (fun _ _ _ => ym z) z (WD.y 2 z (by kernel_rfl) (fun _ _ _ => ym z) z ?_))
     obtain ⟨c, et, h⟩ := bnd h
     have cT := cS.i e z z
     obtain ⟨n4, m5, m6, nr, eu, ew, ex, cq, dB, ey⟩ := Sl.at2 cT et
     obtain ⟨_, _, rfl, rfl, ⟨_, _, rfl, ⟨bS, rfl, bG⟩, ⟨_, _, rfl, rfl, ⟨_, _, rfl, rfl, ⟨_, _, rfl, rfl, ⟨_, _, rfl, rfl, ⟨_, _, rfl, rfl, ⟨_, _, rfl, rfl, ⟨_, _, rfl, rfl, ⟨_, _, rfl, rfl, ⟨_, _, rfl, ⟨_, _, rfl, rfl, ⟨_, _, rfl, rfl, ⟨_, _, rfl, ⟨_, _, rfl, rfl, ⟨bT, rfl, bH⟩⟩, ⟨_, _, rfl, rfl, ⟨bU, rfl, bI⟩⟩⟩⟩⟩, rfl⟩⟩⟩⟩⟩⟩⟩⟩⟩⟩⟩ := dB
     replace cq : CellsAt _ _ _ [vs c.Name, bS, vi c.Kind, vi c.Temp, vB c.Mono, vi c.Start, vi c.Time, vi c.Int_, vu c.Re, vu c.Im, vi c.Hist.Scale, vu c.Hist.Zero, vi c.Hist.Pos.Offset, bT, vi c.Hist.Neg.Offset, bU, vi c.Flags] := cq
     have dC := CAt.imm cq ey
     refine WD.y 3 z (by kernel_rfl) (fun _ _ _ => Y.indexAddr ty22 ty37 z eu z ew ex) z (WD.y 4 z (by kernel_rfl) (fun ns n5 dD => have ez := dC.st dD z; yL ty37 z z ez.at_ z) z (WD.y 5 z (by kernel_rfl) (fun _ _ _ => ym z) z ?_))
     obtain ⟨lp, eA, h⟩ := rhs1 h
     refine WD.join (σ := (Bool × Int × Int × Int × UInt64 × UInt64 × Int × UInt64 × Int × List UInt64 × Int × List UInt64 × List UInt8 × List api_Pair × Int × Int × Bool × Int × Int × Int × UInt64 × UInt64 × Int × UInt64 × Int × List UInt64 × Int × List UInt64 × Int × Int × Own × Nat × Nat × Value × Value × Value × Value × Value)) (f' := 3) [12, 11, 10, 9, 8, 7, 6, 5, 4, 3, 2, 1, 0] (fun x O' w' => law15_play_k2 a0 cI cm aN aO aP aQ aR aS aT aU aW b4 aX b5 ci (x.1, x.2.1, x.2.2.1, x.2.2.2.1, x.2.2.2.2.1, x.2.2.2.2.2.1, x.2.2.2.2.2.2.1, x.2.2.2.2.2.2.2.1, x.2.2.2.2.2.2.2.2.1, x.2.2.2.2.2.2.2.2.2.1, x.2.2.2.2.2.2.2.2.2.2.1, x.2.2.2.2.2.2.2.2.2.2.2.1, x.2.2.2.2.2.2.2.2.2.2.2.2.1, x.2.2.2.2.2.2.2.2.2.2.2.2.2.1, x.2.2.2.2.2.2.2.2.2.2.2.2.2.2.1, x.2.2.2.2.2.2.2.2.2.2.2.2.2.2.2.1, x.2.2.2.2.2.2.2.2.2.2.2.2.2.2.2.2.1, x.2.2.2.2.2.2.2.2.2.2.2.2.2.2.2.2.2.1, x.2.2.2.2.2.2.2.2.2.2.2.2.2.2.2.2.2.2.1, x.2.2.2.2.2.2.2.2.2.2.2.2.2.2.2.2.2.2.2.1, x.2.2.2.2.2.2.2.2.2.2.2.2.2.2.2.2.2.2.2.2.1, x.2.2.2.2.2.2.2.2.2.2.2.2.2.2.2.2.2.2.2.2.2.1, x.2.2.2.2.2.2.2.2.2.2.2.2.2.2.2.2.2.2.2.2.2.2.1, x.2.2.2.2.2.2.2.2.2.2.2.2.2.2.2.2.2.2.2.2.2.2.2.1, x.2.2.2.2.2.2.2.2.2.2.2.2.2.2.2.2.2.2.2.2.2.2.2.2.1, x.2.2.2.2.2.2.2.2.2.2.2.2.2.2.2.2.2.2.2.2.2.2.2.2.2.1, x.2.2.2.2.2.2.2.2.2.2.2.2.2.2.2.2.2.2.2.2.2.2.2.2.2.2.1, x.2.2.2.2.2.2.2.2.2.2.2.2.2.2.2.2.2.2.2.2.2.2.2.2.2.2.2.1, x.2.2.2.2.2.2.2.2.2.2.2.2.2.2.2.2.2.2.2.2.2.2.2.2.2.2.2.2.1, x.2.2.2.2.2.2.2.2.2.2.2.2.2.2.2.2.2.2.2.2.2.2.2.2.2.2.2.2.2.1) = some lp ∧ Stp [13, 14, 15, 16, 17, 18, 19, 20, 21, 22] cj ep x.2.2.2.2.2.2.2.2.2.2.2.2.2.2.2.2.2.2.2.2.2.2.2.2.2.2.2.2.2.2.1 w' ∧ Blk 1001 x.2.2.2.2.2.2.2.2.2.2.2.2.2.2.2.2.2.2.2.2.2.2.2.2.2.2.2.2.2.2.1 w' x.2.2.2.2.2.2.2.2.2.2.2.2.2.2.2.2.2.2.2.2.2.2.2.2.2.2.2.2.2.2.2.1 32 [vB false, vi 0, vi 0, vi 0, vu 0, vu 0, vi 0, vu 0, vi 0, Value.slice none 0 0, vi 0, Value.slice none 0 0] ∧ Blk 1002 x.2.2.2.2.2.2.2.2.2.2.2.2.2.2.2.2.2.2.2.2.2.2.2.2.2.2.2.2.2.2.1 w' x.2.2.2.2.2.2.2.2.2.2.2.2.2.2.2.2.2.2.2.2.2.2.2.2.2.2.2.2.2.2.2.2.1 37 [vs [], Value.slice none 0 0, vi 0, vi 0, vB false, vi 0, vi 0, vi 0, vu 0, vu 0, vi 0, vu 0, vi 0, Value.slice none 0 0, vi 0, Value.slice none 0 0, vi 0] ∧ Sl Rep.u w' (frs x.2.2.2.2.2.2.2.2.2.2.2.2.2.2.2.2.2.2.2.2.2.2.2.2.2.2.2.2.2.2.1) x.2.2.2.2.2.2.2.2.2.2.2.2.2.2.2.2.2.2.2.2.2.2.2.2.2.2.2.2.2.2.2.2.2.1 x.2.2.2.2.2.2.2.2.2.1 ∧ Sl Rep.u w' (frs x.2.2.2.2.2.2.2.2.2.2.2.2.2.2.2.2.2.2.2.2.2.2.2.2.2.2.2.2.2.2.1) x.2.2.2.2.2.2.2.2.2.2.2.2.2.2.2.2.2.2.2.2.2.2.2.2.2.2.2.2.2.2.2.2.2.2.1 x.2.2.2.2.2.2.2.2.2.2.2.1 ∧ Sl rep_api_Pair w' (frs x.2.2.2.2.2.2.2.2.2.2.2.2.2.2.2.2.2.2.2.2.2.2.2.2.2.2.2.2.2.2.1) x.2.2.2.2.2.2.2.2.2.2.2.2.2.2.2.2.2.2.2.2.2.2.2.2.2.2.2.2.2.2.2.2.2.2.2.1 x.2.2.2.2.2.2.2.2.2.2.2.2.2.1 ∧ Sl Rep.u w' (frs x.2.2.2.2.2.2.2.2.2.2.2.2.2.2.2.2.2.2.2.2.2.2.2.2.2.2.2.2.2.2.1) x.2.2.2.2.2.2.2.2.2.2.2.2.2.2.2.2.2.2.2.2.2.2.2.2.2.2.2.2.2.2.2.2.2.2.2.2.1 x.2.2.2.2.2.2.2.2.2.2.2.2.2.2.2.2.2.2.2.2.2.2.2.2.2.1 ∧ Sl Rep.u w' (frs x.2.2.2.2.2.2.2.2.2.2.2.2.2.2.2.2.2.2.2.2.2.2.2.2.2.2.2.2.2.2.1) x.2.2.2.2.2.2.2.2.2.2.2.2.2.2.2.2.2.2.2.2.2.2.2.2.2.2.2.2.2.2.2.2.2.2.2.2.2 x.2.2.2.2.2.2.2.2.2.2.2.2.2.2.2.2.2.2.2.2.2.2.2.2.2.2.2.1 ∧ x.2.2.2.2.2.2.2.2.2.2.2.2.2.2.2.2.2.2.2.2.2.2.2.2.2.2.2.2.2.2.1 = O') (fun x => [(0, v0), (1, vi a1), (6, pt bs 0), (7, cD), (8, cE), (9, pt aM 0), (10, vi ci), (11, Value.pointer (some ⟨x.2.2.2.2.2.2.2.2.2.2.2.2.2.2.2.2.2.2.2.2.2.2.2.2.2.2.2.2.2.2.2.1, 0, none⟩)), (12, Value.pointer (some ⟨x.2.2.2.2.2.2.2.2.2.2.2.2.2.2.2.2.2.2.2.2.2.2.2.2.2.2.2.2.2.2.2.2.1, 0, none⟩)), (29, ag [vB x.1, vi x.2.1, vi x.2.2.1, vi x.2.2.2.1, vu x.2.2.2.2.1, vu x.2.2.2.2.2.1, vi x.2.2.2.2.2.2.1, vu x.2.2.2.2.2.2.2.1, vi x.2.2.2.2.2.2.2.2.1, x.2.2.2.2.2.2.2.2.2.2.2.2.2.2.2.2.2.2.2.2.2.2.2.2.2.2.2.2.2.2.2.2.2.1, vi x.2.2.2.2.2.2.2.2.2.2.1, x.2.2.2.2.2.2.2.2.2.2.2.2.2.2.2.2.2.2.2.2.2.2.2.2.2.2.2.2.2.2.2.2.2.2.1]), (30, ag [vs x.2.2.2.2.2.2.2.2.2.2.2.2.1, x.2.2.2.2.2.2.2.2.2.2.2.2.2.2.2.2.2.2.2.2.2.2.2.2.2.2.2.2.2.2.2.2.2.2.2.1, vi x.2.2.2.2.2.2.2.2.2.2.2.2.2.2.1, vi x.2.2.2.2.2.2.2.2.2.2.2.2.2.2.2.1, vB x.2.2.2.2.2.2.2.2.2.2.2.2.2.2.2.2.1, vi x.2.2.2.2.2.2.2.2.2.2.2.2.2.2.2.2.2.1, vi x.2.2.2.2.2.2.2.2.2.2.2.2.2.2.2.2.2.2.1, vi x.2.2.2.2.2.2.2.2.2.2.2.2.2.2.2.2.2.2.2.1, vu x.2.2.2.2.2.2.2.2.2.2.2.2.2.2.2.2.2.2.2.2.1, vu x.2.2.2.2.2.2.2.2.2.2.2.2.2.2.2.2.2.2.2.2.2.1, vi x.2.2.2.2.2.2.2.2.2.2.2.2.2.2.2.2.2.2.2.2.2.2.1, vu x.2.2.2.2.2.2.2.2.2.2.2.2.2.2.2.2.2.2.2.2.2.2.2.1, vi x.2.2.2.2.2.2.2.2.2.2.2.2.2.2.2.2.2.2.2.2.2.2.2.2.1, x.2.2.2.2.2.2.2.2.2.2.2.2.2.2.2.2.2.2.2.2.2.2.2.2.2.2.2.2.2.2.2.2.2.2.2.2.1, vi x.2.2.2.2.2.2.2.2.2.2.2.2.2.2.2.2.2.2.2.2.2.2.2.2.2.2.1, x.2.2.2.2.2.2.2.2.2.2.2.2.2.2.2.2.2.2.2.2.2.2.2.2.2.2.2.2.2.2.2.2.2.2.2.2.2, vi x.2.2.2.2.2.2.2.2.2.2.2.2.2.2.2.2.2.2.2.2.2.2.2.2.2.2.2.2.1]), (31, vi x.2.2.2.2.2.2.2.2.2.2.2.2.2.2.2.2.2.2.2.2.2.2.2.2.2.2.2.2.2.1)]) (fun br => ?_) ?_
     ·refine WD.heavy3 6 11 12 z z z (by kernel_rfl) ?_ ?_ ?_
      ·have eB := a7.f e z
       have eC := a8.f e z
       obtain ⟨⟨m, d, dE⟩, eD, h⟩ := bnd h
       refine WL.call (vals := [ag [vB aN, vi aO, vi aP, vi aQ, vu aR, vu aS, vi aT, vu aU, vi aW, b6, vi aX, b7], ag [vs c.Name, bS, vi c.Kind, vi c.Temp, vB c.Mono, vi c.Start, vi c.Time, vi c.Int_, vu c.Re, vu c.Im, vi c.Hist.Scale, vu c.Hist.Zero, vi c.Hist.Pos.Offset, bT, vi c.Hist.Neg.Offset, bU, vi c.Flags], vi a1]) kok33 z z (c_todelta_Next (A := fun _ => True) (a0 := (api_State.mk aN aO aP aQ aR aS (api_Hist.mk aT aU (api_Side.mk aW b4) (api_Side.mk aX b5)))) (a1 := c) (Sl.all eB) (Sl.all eC) (Sl.all bG) (Sl.all bH) (Sl.all bI) eD) ?_
       rintro nt bJ ⟨cJ, cK, cL, cM, cN, rfl, eE, lq, lr, ls, lu, lv⟩
       obtain ⟨bt, mW, aY, ca⟩ := adoptE cj (fun k => 1) eE
       have cU : Sl Rep.u bJ (frs bt) cJ m.Hist.Pos.Counts := Sl.adoptF lq (fun k hk => ⟨hk, z⟩) aY
       have cV : Sl Rep.u bJ (frs bt) cK m.Hist.Neg.Counts := Sl.adoptF lr (fun k hk => ⟨hk, z⟩) aY
       have cW : Sl rep_api_Pair bJ (frs bt) cL d.Attrs := Sl.adoptF ls (fun k hk => ⟨hk, z⟩) aY
       have cX : Sl Rep.u bJ (frs bt) cM d.Hist.Pos.Counts := Sl.adoptF lu (fun k hk => ⟨hk, z⟩) aY
       have cY : Sl Rep.u bJ (frs bt) cN d.Hist.Neg.Counts := Sl.adoptF lv (fun k hk => ⟨hk, z⟩) aY
       refine nl (At.dq (su_ ca z) (WD.y 7 z (by kernel_rfl) (fun _ _ _ => ym z) z (WD.y 8 z (by kernel_rfl) (fun _ _ _ => yx z z) z (WD.y 9 z (by kernel_rfl) (fun _ _ _ => yx z z) z (WD.y 10 z (by kernel_rfl) (fun _ _ _ => yx z z) z ?_)))))
       refine WD.heavy2 11 12 z z (by kernel_rfl) ?_ ?_
       ·refine WL.alloc (O := bt) 13 [vB false, vi 0, vi 0, vi 0, vu 0, vu 0, vi 0, vu 0, vi 0, Value.slice none 0 0, vi 0, Value.slice none 0 0] ty32 z z ?_
        intro lw lx nu aH eF
        refine nl (At.dq (su_ aH z) (WD.heavy 12 z (by kernel_rfl) (WL.alloc (O := lx) 14 [vs [], Value.slice none 0 0, vi 0, vi 0, vB false, vi 0, vi 0, vi 0, vu 0, vu 0, vi 0, vu 0, vi 0, Value.slice none 0 0, vi 0, Value.slice none 0 0, vi 0] ty37 z z ?_)))
        intro ly n6 nv al eG
        refine nl (At.dq (su_ al z) ?_)
        have eH := eF.st al z
        obtain ⟨n7, am, eI⟩ := Blk.rlb 1001 rfl eH
        have eJ := eG.st am z
        obtain ⟨lA, an, eK⟩ := Blk.rlb 1002 rfl eJ
        have eL := eI.st an z
        have eM := cU.f aH z
        have eN := eM.f al z
        have eO := eN.f am z
        have eP := eO.f an z
        have eQ := cV.f aH z
        have eR := eQ.f al z
        have eS := eR.f am z
        have eT := eS.f an z
        have eU := cW.f aH z
        have eV := eU.f al z
        have eW := eV.f am z
        have eX := eW.f an z
        have eY := cX.f aH z
        have eZ := eY.f al z
        have e0 := eZ.f am z
        have e1 := e0.f an z
        have e2 := cY.f aH z
        have e5 := e2.f al z
        have e6 := e5.f am z
        have e7 := e6.f an z
        refine WD.own (tr_ (su_ am z) (su_ an z)) (WD.perm _ [12, 11, 10, 9, 8, 7, 6, 5, 4, 3, 2, 1, 0] (by kernel_rfl) ?_)
        exact br (m.Some, m.Start, m.Time, m.Int_, m.Re, m.Im, m.Hist.Scale, m.Hist.Zero, m.Hist.Pos.Offset, m.Hist.Pos.Counts, m.Hist.Neg.Offset, m.Hist.Neg.Counts, d.Name, d.Attrs, d.Kind, d.Temp, d.Mono, d.Start, d.Time, d.Int_, d.Re, d.Im, d.Hist.Scale, d.Hist.Zero, d.Hist.Pos.Offset, d.Hist.Pos.Counts, d.Hist.Neg.Offset, d.Hist.Neg.Counts, d.Flags, dE, lA, lw, ly, cJ, cK, cL, cM, cN) _ _ _ ⟨h, (tr_ (su_ ca z) (tr_ (su_ aH z) (tr_ (su_ al z) (tr_ (su_ am z) (su_ an z))))), eL, eK, eP, eT, eX, e1, e7, z⟩ (.cons z (.cons z (.cons z (.cons z (.cons z (.cons z (.cons z (.cons z (.cons z (.cons z (.cons z (.cons z .nil))))))))))))
       ·refine WL.alloc (O := bt) 15 [vs [], Value.slice none 0 0, vi 0, vi 0, vB false, vi 0, vi 0, vi 0, vu 0, vu 0, vi 0, vu 0, vi 0, Value.slice none 0 0, vi 0, Value.slice none 0 0, vi 0] ty37 z z ?_
        intro lB lC nw aI e8
        refine nl (At.dq (su_ aI z) (WD.heavy 11 z (by kernel_rfl) (WL.alloc (O := lC) 16 [vB false, vi 0, vi 0, vi 0, vu 0, vu 0, vi 0, vu 0, vi 0, Value.slice none 0 0, vi 0, Value.slice none 0 0] ty32 z z ?_)))
        intro lD n9 nx ao e9
        refine nl (At.dq (su_ ao z) ?_)
        obtain ⟨oa, ap, fa⟩ := Blk.rlb 1001 rfl e9
        have fb := e8.st ao z
        have fc := fb.st ap z
        obtain ⟨lE, aq, fd⟩ := Blk.rlb 1002 rfl fc
        have fe := fa.st aq z
        have ff := cU.f aI z
        have fg := ff.f ao z
        have fh := fg.f ap z
        have fi := fh.f aq z
        have fj := cV.f aI z
        have fk := fj.f ao z
        have fl := fk.f ap z
        have fm := fl.f aq z
        have fn := cW.f aI z
        have fo := fn.f ao z
        have fp := fo.f ap z
        have fq := fp.f aq z
        have fr := cX.f aI z
        have fs := fr.f ao z
        have ft := fs.f ap z
        have fu := ft.f aq z
        have fv := cY.f aI z
        have fw := fv.f ao z
        have fx := fw.f ap z
        have fy := fx.f aq z
        refine WD.own (tr_ (su_ ap z) (su_ aq z)) (WD.perm _ [12, 11, 10, 9, 8, 7, 6, 5, 4, 3, 2, 1, 0] (by kernel_rfl) ?_)
        exact br (m.Some, m.Start, m.Time, m.Int_, m.Re, m.Im, m.Hist.Scale, m.Hist.Zero, m.Hist.Pos.Offset, m.Hist.Pos.Counts, m.Hist.Neg.Offset, m.Hist.Neg.Counts, d.Name, d.Attrs, d.Kind, d.Temp, d.Mono, d.Start, d.Time, d.Int_, d.Re, d.Im, d.Hist.Scale, d.Hist.Zero, d.Hist.Pos.Offset, d.Hist.Pos.Counts, d.Hist.Neg.Offset, d.Hist.Neg.Counts, d.Flags, dE, lE, lD, lB, cJ, cK, cL, cM, cN) _ _ _ ⟨h, (tr_ (su_ ca z) (tr_ (su_ aI z) (tr_ (su_ ao z) (tr_ (su_ ap z) (su_ aq z))))), fe, fd, fi, fm, fq, fu, fy, z⟩ (.cons z (.cons z (.cons z (.cons z (.cons z (.cons z (.cons z (.cons z (.cons z (.cons z (.cons z (.cons z .nil))))))))))))
      ·refine WL.alloc (O := cj) 17 [vB false, vi 0, vi 0, vi 0, vu 0, vu 0, vi 0, vu 0, vi 0, Value.slice none 0 0, vi 0, Value.slice none 0 0] ty32 z z ?_
       intro dF dG ny F cZ
       refine nl (At.dq (su_ F z) ?_)
       refine WD.heavy2 6 12 z z (by kernel_rfl) ?_ ?_
       ·have fz := a7.f e z
        have fA := fz.f F z
        have fB := a8.f e z
        have fC := fB.f F z
        have fD := bG.i F z z
        have fF := bH.i F z z
        have fG := bI.i F z z
        obtain ⟨⟨ae, G, lF⟩, fH, h⟩ := bnd h
        refine WL.call (vals := [ag [vB aN, vi aO, vi aP, vi aQ, vu aR, vu aS, vi aT, vu aU, vi aW, b6, vi aX, b7], ag [vs c.Name, bS, vi c.Kind, vi c.Temp, vB c.Mono, vi c.Start, vi c.Time, vi c.Int_, vu c.Re, vu c.Im, vi c.Hist.Scale, vu c.Hist.Zero, vi c.Hist.Pos.Offset, bT, vi c.Hist.Neg.Offset, bU, vi c.Flags], vi a1]) kok33 z z (c_todelta_Next (A := fun _ => True) (a0 := (api_State.mk aN aO aP aQ aR aS (api_Hist.mk aT aU (api_Side.mk aW b4) (api_Side.mk aX b5)))) (a1 := c) (Sl.all fA) (Sl.all fC) (Sl.all fD) (Sl.all fF) (Sl.all fG) fH) ?_
        rintro nA bK ⟨dH, dI, dJ, dK, dL, rfl, fI, lG, lH, lI, lJ, lK⟩
        obtain ⟨bW, mX, aZ, cb⟩ := adoptE dG (fun k => 1) fI
        have fJ : Sl Rep.u bK (frs bW) dH ae.Hist.Pos.Counts := Sl.adoptF lG (fun k hk => ⟨hk, z⟩) aZ
        have fK : Sl Rep.u bK (frs bW) dI ae.Hist.Neg.Counts := Sl.adoptF lH (fun k hk => ⟨hk, z⟩) aZ
        have fL : Sl rep_api_Pair bK (frs bW) dJ G.Attrs := Sl.adoptF lI (fun k hk => ⟨hk, z⟩) aZ
        have fN : Sl Rep.u bK (frs bW) dK G.Hist.Pos.Counts := Sl.adoptF lJ (fun k hk => ⟨hk, z⟩) aZ
        have fO : Sl Rep.u bK (frs bW) dL G.Hist.Neg.Counts := Sl.adoptF lK (fun k hk => ⟨hk, z⟩) aZ
        refine nl (At.dq (su_ cb z) (WD.y 7 z (by kernel_rfl) (fun _ _ _ => ym z) z (WD.y 8 z (by kernel_rfl) (fun _ _ _ => yx z z) z (WD.y 9 z (by kernel_rfl) (fun _ _ _ => yx z z) z (WD.y 10 z (by kernel_rfl) (fun _ _ _ => yx z z) z (WD.heavy 12 z (by kernel_rfl) (WL.alloc (O := bW) 18 [vs [], Value.slice none 0 0, vi 0, vi 0, vB false, vi 0, vi 0, vi 0, vu 0, vu 0, vi 0, vu 0, vi 0, Value.slice none 0 0, vi 0, Value.slice none 0 0, vi 0] ty37 z z ?_)))))))
        intro lL oc nB ar fP
        refine nl (At.dq (su_ ar z) ?_)
        have fQ := cZ.st cb z
        have fR := fQ.st ar z
        obtain ⟨od, au, fT⟩ := Blk.rlb 1001 rfl fR
        have fU := fP.st au z
        obtain ⟨lM, av, fV⟩ := Blk.rlb 1002 rfl fU
        have fY := fT.st av z
        have f0 := fJ.f ar z
        have f1 := f0.f au z
        have f2 := f1.f av z
        have f3 := fK.f ar z
        have f4 := f3.f au z
        have f5 := f4.f av z
        have f6 := fL.f ar z
        have f7 := f6.f au z
        have f8 := f7.f av z
        have f9 := fN.f ar z
        have ga := f9.f au z
        have gb := ga.f av z
        have gc := fO.f ar z
        have gd := gc.f au z
        have ge := gd.f av z
        refine WD.own (tr_ (su_ au z) (su_ av z)) (WD.perm _ [12, 11, 10, 9, 8, 7, 6, 5, 4, 3, 2, 1, 0] (by kernel_rfl) ?_)
        exact br (ae.Some, ae.Start, ae.Time, ae.Int_, ae.Re, ae.Im, ae.Hist.Scale, ae.Hist.Zero, ae.Hist.Pos.Offset, ae.Hist.Pos.Counts, ae.Hist.Neg.Offset, ae.Hist.Neg.Counts, G.Name, G.Attrs, G.Kind, G.Temp, G.Mono, G.Start, G.Time, G.Int_, G.Re, G.Im, G.Hist.Scale, G.Hist.Zero, G.Hist.Pos.Offset, G.Hist.Pos.Counts, G.Hist.Neg.Offset, G.Hist.Neg.Counts, G.Flags, lF, lM, dF, lL, dH, dI, dJ, dK, dL) _ _ _ ⟨h, (tr_ (su_ F z) (tr_ (su_ cb z) (tr_ (su_ ar z) (tr_ (su_ au z) (su_ av z))))), fY, fV, f2, f5, f8, gb, ge, z⟩ (.cons z (.cons z (.cons z (.cons z (.cons z (.cons z (.cons z (.cons z (.cons z (.cons z (.cons z (.cons z .nil))))))))))))
       ·refine WL.alloc (O := dG) 19 [vs [], Value.slice none 0 0, vi 0, vi 0, vB false, vi 0, vi 0, vi 0, vu 0, vu 0, vi 0, vu 0, vi 0, Value.slice none 0 0, vi 0, Value.slice none 0 0, vi 0] ty37 z z ?_
        intro lN lO nC aw gf
        refine nl (At.dq (su_ aw z) (WD.heavy 6 z (by kernel_rfl) ?_))
        have gg := a7.f e z
        have gh := gg.f F z
        have gi := gh.f aw z
        have gj := a8.f e z
        have gk := gj.f F z
        have gl := gk.f aw z
        have gm := bG.i F z z
        have gn := gm.i aw z z
        have gp := bH.i F z z
        have gq := gp.i aw z z
        have gr := bI.i F z z
        have gs := gr.i aw z z
        obtain ⟨⟨af, H, lP⟩, gt, h⟩ := bnd h
        refine WL.call (vals := [ag [vB aN, vi aO, vi aP, vi aQ, vu aR, vu aS, vi aT, vu aU, vi aW, b6, vi aX, b7], ag [vs c.Name, bS, vi c.Kind, vi c.Temp, vB c.Mono, vi c.Start, vi c.Time, vi c.Int_, vu c.Re, vu c.Im, vi c.Hist.Scale, vu c.Hist.Zero, vi c.Hist.Pos.Offset, bT, vi c.Hist.Neg.Offset, bU, vi c.Flags], vi a1]) kok33 z z (c_todelta_Next (A := fun _ => True) (a0 := (api_State.mk aN aO aP aQ aR aS (api_Hist.mk aT aU (api_Side.mk aW b4) (api_Side.mk aX b5)))) (a1 := c) (Sl.all gi) (Sl.all gl) (Sl.all gn) (Sl.all gq) (Sl.all gs) gt) ?_
        rintro nD bL ⟨dM, dN, dO, dP, dQ, rfl, gu, lQ, lR, lS, lT, lU⟩
        obtain ⟨cc, mY, a2, bM⟩ := adoptE lO (fun k => 1) gu
        have gw : Sl Rep.u bL (frs cc) dM af.Hist.Pos.Counts := Sl.adoptF lQ (fun k hk => ⟨hk, z⟩) a2
        have gz : Sl Rep.u bL (frs cc) dN af.Hist.Neg.Counts := Sl.adoptF lR (fun k hk => ⟨hk, z⟩) a2
        have gB : Sl rep_api_Pair bL (frs cc) dO H.Attrs := Sl.adoptF lS (fun k hk => ⟨hk, z⟩) a2
        have gC : Sl Rep.u bL (frs cc) dP H.Hist.Pos.Counts := Sl.adoptF lT (fun k hk => ⟨hk, z⟩) a2
        have gE : Sl Rep.u bL (frs cc) dQ H.Hist.Neg.Counts := Sl.adoptF lU (fun k hk => ⟨hk, z⟩) a2
        refine nl (At.dq (su_ bM z) (WD.y 7 z (by kernel_rfl) (fun _ _ _ => ym z) z (WD.y 8 z (by kernel_rfl) (fun _ _ _ => yx z z) z (WD.y 9 z (by kernel_rfl) (fun _ _ _ => yx z z) z (WD.y 10 z (by kernel_rfl) (fun _ _ _ => yx z z) z ?_)))))
        have gG := cZ.st aw z
        have gH := gG.st bM z
        obtain ⟨oe, ax, gI⟩ := Blk.rlb 1001 rfl gH
        have gJ := gf.st bM z
        have gK := gJ.st ax z
        obtain ⟨lV, ay, gL⟩ := Blk.rlb 1002 rfl gK
        have gM := gI.st ay z
        have gO := gw.f ax z
        have gP := gO.f ay z
        have gQ := gz.f ax z
        have gR := gQ.f ay z
        have gU := gB.f ax z
        have gV := gU.f ay z
        have gW := gC.f ax z
        have gX := gW.f ay z
        have gY := gE.f ax z
        have gZ := gY.f ay z
        refine WD.own (tr_ (su_ ax z) (su_ ay z)) (WD.perm _ [12, 11, 10, 9, 8, 7, 6, 5, 4, 3, 2, 1, 0] (by kernel_rfl) ?_)
        exact br (af.Some, af.Start, af.Time, af.Int_, af.Re, af.Im, af.Hist.Scale, af.Hist.Zero, af.Hist.Pos.Offset, af.Hist.Pos.Counts, af.Hist.Neg.Offset, af.Hist.Neg.Counts, H.Name, H.Attrs, H.Kind, H.Temp, H.Mono, H.Start, H.Time, H.Int_, H.Re, H.Im, H.Hist.Scale, H.Hist.Zero, H.Hist.Pos.Offset, H.Hist.Pos.Counts, H.Hist.Neg.Offset, H.Hist.Neg.Counts, H.Flags, lP, lV, dF, lN, dM, dN, dO, dP, dQ) _ _ _ ⟨h, (tr_ (su_ F z) (tr_ (su_ aw z) (tr_ (su_ bM z) (tr_ (su_ ax z) (su_ ay z))))), gM, gL, gP, gR, gV, gX, gZ, z⟩ (.cons z (.cons z (.cons z (.cons z (.cons z (.cons z (.cons z (.cons z (.cons z (.cons z (.cons z (.cons z .nil))))))))))))
      ·refine WL.alloc (O := cj) 20 [vs [], Value.slice none 0 0, vi 0, vi 0, vB false, vi 0, vi 0, vi 0, vu 0, vu 0, vi 0, vu 0, vi 0, Value.slice none 0 0, vi 0, Value.slice none 0 0, vi 0] ty37 z z ?_
       intro dR dS nF I c0
       refine nl (At.dq (su_ I z) ?_)
       refine WD.heavy2 6 11 z z (by kernel_rfl) ?_ ?_
       ·have g0 := a7.f e z
        have g1 := g0.f I z
        have g2 := a8.f e z
        have g3 := g2.f I z
        have g4 := bG.i I z z
        have g5 := bH.i I z z
        have g6 := bI.i I z z
        obtain ⟨⟨ah, J, lW⟩, g7, h⟩ := bnd h
        refine WL.call (vals := [ag [vB aN, vi aO, vi aP, vi aQ, vu aR, vu aS, vi aT, vu aU, vi aW, b6, vi aX, b7], ag [vs c.Name, bS, vi c.Kind, vi c.Temp, vB c.Mono, vi c.Start, vi c.Time, vi c.Int_, vu c.Re, vu c.Im, vi c.Hist.Scale, vu c.Hist.Zero, vi c.Hist.Pos.Offset, bT, vi c.Hist.Neg.Offset, bU, vi c.Flags], vi a1]) kok33 z z (c_todelta_Next (A := fun _ => True) (a0 := (api_State.mk aN aO aP aQ aR aS (api_Hist.mk aT aU (api_Side.mk aW b4) (api_Side.mk aX b5)))) (a1 := c) (Sl.all g1) (Sl.all g3) (Sl.all g4) (Sl.all g5) (Sl.all g6) g7) ?_
        rintro nG bO ⟨dT, dU, dV, dW, dX, rfl, g8, lX, lY, lZ, l0, l1⟩
        obtain ⟨bX, mZ, a3, cd⟩ := adoptE dS (fun k => 1) g8
        have g9 : Sl Rep.u bO (frs bX) dT ah.Hist.Pos.Counts := Sl.adoptF lX (fun k hk => ⟨hk, z⟩) a3
        have ha : Sl Rep.u bO (frs bX) dU ah.Hist.Neg.Counts := Sl.adoptF lY (fun k hk => ⟨hk, z⟩) a3
        have hc : Sl rep_api_Pair bO (frs bX) dV J.Attrs := Sl.adoptF lZ (fun k hk => ⟨hk, z⟩) a3
        have hd : Sl Rep.u bO (frs bX) dW J.Hist.Pos.Counts := Sl.adoptF l0 (fun k hk => ⟨hk, z⟩) a3
        have he : Sl Rep.u bO (frs bX) dX J.Hist.Neg.Counts := Sl.adoptF l1 (fun k hk => ⟨hk, z⟩) a3
        refine nl (At.dq (su_ cd z) (WD.y 7 z (by kernel_rfl) (fun _ _ _ => ym z) z (WD.y 8 z (by kernel_rfl) (fun _ _ _ => yx z z) z (WD.y 9 z (by kernel_rfl) (fun _ _ _ => yx z z) z (WD.y 10 z (by kernel_rfl) (fun _ _ _ => yx z z) z (WD.heavy 11 z (by kernel_rfl) (WL.alloc (O := bX) 21 [vB false, vi 0, vi 0, vi 0, vu 0, vu 0, vi 0, vu 0, vi 0, Value.slice none 0 0, vi 0, Value.slice none 0 0] ty32 z z ?_)))))))
        intro l2 og nH az hf
        refine nl (At.dq (su_ az z) ?_)
        obtain ⟨oh, aA, hg⟩ := Blk.rlb 1001 rfl hf
        have hh := c0.st cd z
        have hi := hh.st az z
        have hj := hi.st aA z
        obtain ⟨l3, aC, hl⟩ := Blk.rlb 1002 rfl hj
        have hm := hg.st aC z
        have hn := g9.f az z
        have ho := hn.f aA z
        have hp := ho.f aC z
        have hq := ha.f az z
        have hr := hq.f aA z
        have hs := hr.f aC z
        have ht := hc.f az z
        have hu := ht.f aA z
        have hv := hu.f aC z
        have hw := hd.f az z
        have hx := hw.f aA z
        have hy := hx.f aC z
        have hz := he.f az z
        have hA := hz.f aA z
        have hC := hA.f aC z
        refine WD.own (tr_ (su_ aA z) (su_ aC z)) (WD.perm _ [12, 11, 10, 9, 8, 7, 6, 5, 4, 3, 2, 1, 0] (by kernel_rfl) ?_)
        exact br (ah.Some, ah.Start, ah.Time, ah.Int_, ah.Re, ah.Im, ah.Hist.Scale, ah.Hist.Zero, ah.Hist.Pos.Offset, ah.Hist.Pos.Counts, ah.Hist.Neg.Offset, ah.Hist.Neg.Counts, J.Name, J.Attrs, J.Kind, J.Temp, J.Mono, J.Start, J.Time, J.Int_, J.Re, J.Im, J.Hist.Scale, J.Hist.Zero, J.Hist.Pos.Offset, J.Hist.Pos.Counts, J.Hist.Neg.Offset, J.Hist.Neg.Counts, J.Flags, lW, l3, l2, dR, dT, dU, dV, dW, dX) _ _ _ ⟨h, (tr_ (su_ I z) (tr_ (su_ cd z) (tr_ (su_ az z) (tr_ (su_ aA z) (su_ aC z))))), hm, hl, hp, hs, hv, hy, hC, z⟩ (.cons z (.cons z (.cons z (.cons z (.cons z (.cons z (.cons z (.cons z (.cons z (.cons z (.cons z (.cons z .nil))))))))))))
       ·refine WL.alloc (O := dS) 22 [vB false, vi 0, vi 0, vi 0, vu 0, vu 0, vi 0, vu 0, vi 0, Value.slice none 0 0, vi 0, Value.slice none 0 0] ty32 z z ?_
        intro l4 l5 nI aD hD
        refine nl (At.dq (su_ aD z) (WD.heavy 6 z (by kernel_rfl) ?_))
        have hE := a7.f e z
        have hF := hE.f I z
        have hG := hF.f aD z
        have hH := a8.f e z
        have hI := hH.f I z
        have hJ := hI.f aD z
        have hK := bG.i I z z
        have hL := hK.i aD z z
        have hM := bH.i I z z
        have hN := hM.i aD z z
        have hO := bI.i I z z
        have hP := hO.i aD z z
        obtain ⟨⟨ai, K, l6⟩, hQ, h⟩ := bnd h
        refine WL.call (vals := [ag [vB aN, vi aO, vi aP, vi aQ, vu aR, vu aS, vi aT, vu aU, vi aW, b6, vi aX, b7], ag [vs c.Name, bS, vi c.Kind, vi c.Temp, vB c.Mono, vi c.Start, vi c.Time, vi c.Int_, vu c.Re, vu c.Im, vi c.Hist.Scale, vu c.Hist.Zero, vi c.Hist.Pos.Offset, bT, vi c.Hist.Neg.Offset, bU, vi c.Flags], vi a1]) kok33 z z (c_todelta_Next (A := fun _ => True) (a0 := (api_State.mk aN aO aP aQ aR aS (api_Hist.mk aT aU (api_Side.mk aW b4) (api_Side.mk aX b5)))) (a1 := c) (Sl.all hG) (Sl.all hJ) (Sl.all hL) (Sl.all hN) (Sl.all hP) hQ) ?_
        rintro nJ bP ⟨dY, dZ, d0, d1, d2, rfl, hR, l7, l8, l9, ma, mb⟩
        obtain ⟨ce, m0, a4, bQ⟩ := adoptE l5 (fun k => 1) hR
        have hS : Sl Rep.u bP (frs ce) dY ai.Hist.Pos.Counts := Sl.adoptF l7 (fun k hk => ⟨hk, z⟩) a4
        have hT : Sl Rep.u bP (frs ce) dZ ai.Hist.Neg.Counts := Sl.adoptF l8 (fun k hk => ⟨hk, z⟩) a4
        have hU : Sl rep_api_Pair bP (frs ce) d0 K.Attrs := Sl.adoptF l9 (fun k hk => ⟨hk, z⟩) a4
        have hV : Sl Rep.u bP (frs ce) d1 K.Hist.Pos.Counts := Sl.adoptF ma (fun k hk => ⟨hk, z⟩) a4
        have hW : Sl Rep.u bP (frs ce) d2 K.Hist.Neg.Counts := Sl.adoptF mb (fun k hk => ⟨hk, z⟩) a4
        refine nl (At.dq (su_ bQ z) (WD.y 7 z (by kernel_rfl) (fun _ _ _ => ym z) z (WD.y 8 z (by kernel_rfl) (fun _ _ _ => yx z z) z (WD.y 9 z (by kernel_rfl) (fun _ _ _ => yx z z) z (WD.y 10 z (by kernel_rfl) (fun _ _ _ => yx z z) z ?_)))))
        have hX := hD.st bQ z
        obtain ⟨oi, aE, hY⟩ := Blk.rlb 1001 rfl hX
        have hZ := c0.st aD z
        have h0 := hZ.st bQ z
        have h1 := h0.st aE z
        obtain ⟨mc, aF, h2⟩ := Blk.rlb 1002 rfl h1
        have h3 := hY.st aF z
        have h4 := hS.f aE z
        have h5 := h4.f aF z
        have h6 := hT.f aE z
        have h7 := h6.f aF z
        have h8 := hU.f aE z
        have h9 := h8.f aF z
        have ia := hV.f aE z
        have ib := ia.f aF z
        have ic := hW.f aE z
        have ie := ic.f aF z
        refine WD.own (tr_ (su_ aE z) (su_ aF z)) (WD.perm _ [12, 11, 10, 9, 8, 7, 6, 5, 4, 3, 2, 1, 0] (by kernel_rfl) ?_)
        exact br (ai.Some, ai.Start, ai.Time, ai.Int_, ai.Re, ai.Im, ai.Hist.Scale, ai.Hist.Zero, ai.Hist.Pos.Offset, ai.Hist.Pos.Counts, ai.Hist.Neg.Offset, ai.Hist.Neg.Counts, K.Name, K.Attrs, K.Kind, K.Temp, K.Mono, K.Start, K.Time, K.Int_, K.Re, K.Im, K.Hist.Scale, K.Hist.Zero, K.Hist.Pos.Offset, K.Hist.Pos.Counts, K.Hist.Neg.Offset, K.Hist.Neg.Counts, K.Flags, l6, mc, l4, dR, dY, dZ, d0, d1, d2) _ _ _ ⟨h, (tr_ (su_ I z) (tr_ (su_ aD z) (tr_ (su_ bQ z) (tr_ (su_ aE z) (su_ aF z))))), h3, h2, h5, h7, h9, ib, ie, z⟩ (.cons z (.cons z (.cons z (.cons z (.cons z (.cons z (.cons z (.cons z (.cons z (.cons z (.cons z (.cons z .nil))))))))))))
     ·rintro ⟨bu, bw, bx, bz, bA, bB, bC, bD, bE, md, bF, me, a6, mf, aJ, aG, ak, aj, ad, ab, Z, Q, L, p, n, mg, o, mh, M, mi, mj, ml, mm, mn, mo, mp, mq, mr⟩ _ nK ⟨h, P, c1, c2, cr, cs, c3, c4, c5, rfl⟩
      replace h := h.trans (congrArg some eA.symm)
      unfold law15_play_k2 at h
      try dsimp only at h P c1 c2 cr cs c3 c4 c5
      refine (show WD _ _ _ _ _ _ _ _ [(0, v0), (1, vi a1), (6, pt bs 0), (7, cD), (8, cE), (9, pt aM 0), (10, vi ci), (11, pt ml 0), (12, pt mm 0), (29, ag [vB bu, vi bw, vi bx, vi bz, vu bA, vu bB, vi bC, vu bD, vi bE, mn, vi bF, mo]), (30, ag [vs a6, mp, vi aJ, vi aG, vB ak, vi aj, vi ad, vi ab, vu Z, vu Q, vi L, vu p, vi n, mq, vi o, mr, vi M]), (31, vi mi)] _ _ from ?_)
      refine WD.heavy 13 z (by kernel_rfl) ?_
      have ig := h
      obtain ⟨bY, bZ, b0, rfl⟩ := cr.shape
      have h := ig
      have ih := h
      obtain ⟨b1, b2, b3, rfl⟩ := cs.shape
      have h := ih
      refine WL.store (v := ag [vB bu, vi bw, vi bx, vi bz, vu bA, vu bB, vi bC, vu bD, vi bE, (Value.slice bY bZ b0), vi bF, (Value.slice b1 b2 b3)]) (cells' := [vB bu, vi bw, vi bx, vi bz, vu bA, vu bB, vi bC, vu bD, vi bE, (Value.slice bY bZ b0), vi bF, (Value.slice b1 b2 b3)]) ty32 z z c1 z (le_ z) z z ?_
      intro nL j ii
      refine nl (At.dq (su_ j z) (WD.heavy 14 z (by kernel_rfl) ?_))
      have c6 := c3.f j z
      have ij := h
      obtain ⟨a9, ba, bb, rfl⟩ := c6.shape
      have h := ij
      have c7 := c4.f j z
      have ik := h
      obtain ⟨q, r, t, rfl⟩ := c7.shape
      have h := ik
      have c8 := c5.f j z
      have il := h
      obtain ⟨C, D, E, rfl⟩ := c8.shape
      have h := il
      have im := c2.st j z
      refine WL.store (v := ag [vs a6, (Value.slice a9 ba bb), vi aJ, vi aG, vB ak, vi aj, vi ad, vi ab, vu Z, vu Q, vi L, vu p, vi n, (Value.slice q r t), vi o, (Value.slice C D E), vi M]) (cells' := [vs a6, (Value.slice a9 ba bb), vi aJ, vi aG, vB ak, vi aj, vi ad, vi ab, vu Z, vu Q, vi L, vu p, vi n, (Value.slice q r t), vi o, (Value.slice C D E), vi M]) ty37 z z im z (le_ z) z z ?_
      intro nN l io
      refine nl (At.dq (su_ l z) (WD.y 15 z (by kernel_rfl) (fun _ _ _ => ya z) z (WD.done_ (by kernel_rfl) (th (sq (rg (wY (ym z) z (wY (Y.eql_i z z) z (nl ?_)))))))))
      refine th ?_
      rcases cnd h with ⟨ct, h⟩ | ⟨ct, h⟩
      ·refine WC.condT' z ct (sq (rg (wY (ym z) z (wY (ym z) z (wY (ym z) z ?_)))))
       obtain ⟨a, ip, h⟩ := bnd h
       have iq := cT.i P z z
       have ir := iq.i j z z
       have it := ir.i l z z
       obtain ⟨oj, m7, m8, nO, iu, iv, iw, cu, d3, ix⟩ := Sl.at2 it ip
       obtain ⟨_, _, rfl, rfl, ⟨_, _, rfl, ⟨ms, rfl, c9⟩, ⟨_, _, rfl, rfl, ⟨_, _, rfl, rfl, ⟨_, _, rfl, rfl, ⟨_, _, rfl, rfl, ⟨_, _, rfl, rfl, ⟨_, _, rfl, rfl, ⟨_, _, rfl, rfl, ⟨_, _, rfl, rfl, ⟨_, _, rfl, ⟨_, _, rfl, rfl, ⟨_, _, rfl, rfl, ⟨_, _, rfl, ⟨_, _, rfl, rfl, ⟨mt, rfl, da⟩⟩, ⟨_, _, rfl, rfl, ⟨mu, rfl, db⟩⟩⟩⟩⟩, rfl⟩⟩⟩⟩⟩⟩⟩⟩⟩⟩⟩ := d3
       replace cu : CellsAt _ _ _ [vs a.Name, ms, vi a.Kind, vi a.Temp, vB a.Mono, vi a.Start, vi a.Time, vi a.Int_, vu a.Re, vu a.Im, vi a.Hist.Scale, vu a.Hist.Zero, vi a.Hist.Pos.Offset, mt, vi a.Hist.Neg.Offset, mu, vi a.Flags] := cu
       have d4 := CAt.imm cu ix
       refine wY (Y.indexAddr ty22 ty37 z iu z iv iw) z (wY (yL ty37 z z d4.at_ z) z ?_)
       have iy := h
       obtain ⟨cf, cg, ch, rfl⟩ := c9.shape
       have h := iy
       have iz := h
       obtain ⟨S, T, U, rfl⟩ := da.shape
       have h := iz
       have iA := h
       obtain ⟨V, W, X, rfl⟩ := db.shape
       have h := iA
       refine WL.buildSlice (O := mj) (R := rep_api_Point) (vals := [(0, ag [vs a.Name, (Value.slice cf cg ch), vi a.Kind, vi a.Temp, vB a.Mono, vi a.Start, vi a.Time, vi a.Int_, vu a.Re, vu a.Im, vi a.Hist.Scale, vu a.Hist.Zero, vi a.Hist.Pos.Offset, (Value.slice S T U), vi a.Hist.Neg.Offset, (Value.slice V W X), vi a.Flags])]) 23 [vs a.Name, (Value.slice cf cg ch), vi a.Kind, vi a.Temp, vB a.Mono, vi a.Start, vi a.Time, vi a.Int_, vu a.Re, vu a.Im, vi a.Hist.Scale, vu a.Hist.Zero, vi a.Hist.Pos.Offset, (Value.slice S T U), vi a.Hist.Neg.Offset, (Value.slice V W X), vi a.Flags] (xs := [a]) (by decide) ty22 ty37 (by decide) (by decide) (fe_ z) (by kernel_rfl) z ⟨[vs a.Name, (Value.slice cf cg ch), vi a.Kind, vi a.Temp, vB a.Mono, vi a.Start, vi a.Time, vi a.Int_, vu a.Re, vu a.Im, vi a.Hist.Scale, vu a.Hist.Zero, vi a.Hist.Pos.Offset, (Value.slice S T U), vi a.Hist.Neg.Offset, (Value.slice V W X), vi a.Flags], [], z, ⟨[vs a.Name], [(Value.slice cf cg ch), vi a.Kind, vi a.Temp, vB a.Mono, vi a.Start, vi a.Time, vi a.Int_, vu a.Re, vu a.Im, vi a.Hist.Scale, vu a.Hist.Zero, vi a.Hist.Pos.Offset, (Value.slice S T U), vi a.Hist.Neg.Offset, (Value.slice V W X), vi a.Flags], z, z, ⟨[(Value.slice cf cg ch)], [vi a.Kind, vi a.Temp, vB a.Mono, vi a.Start, vi a.Time, vi a.Int_, vu a.Re, vu a.Im, vi a.Hist.Scale, vu a.Hist.Zero, vi a.Hist.Pos.Offset, (Value.slice S T U), vi a.Hist.Neg.Offset, (Value.slice V W X), vi a.Flags], z, ⟨_, z, c9⟩, ⟨[vi a.Kind], [vi a.Temp, vB a.Mono, vi a.Start, vi a.Time, vi a.Int_, vu a.Re, vu a.Im, vi a.Hist.Scale, vu a.Hist.Zero, vi a.Hist.Pos.Offset, (Value.slice S T U), vi a.Hist.Neg.Offset, (Value.slice V W X), vi a.Flags], z, z, ⟨[vi a.Temp], [vB a.Mono, vi a.Start, vi a.Time, vi a.Int_, vu a.Re, vu a.Im, vi a.Hist.Scale, vu a.Hist.Zero, vi a.Hist.Pos.Offset, (Value.slice S T U), vi a.Hist.Neg.Offset, (Value.slice V W X), vi a.Flags], z, z, ⟨[vB a.Mono], [vi a.Start, vi a.Time, vi a.Int_, vu a.Re, vu a.Im, vi a.Hist.Scale, vu a.Hist.Zero, vi a.Hist.Pos.Offset, (Value.slice S T U), vi a.Hist.Neg.Offset, (Value.slice V W X), vi a.Flags], z, z, ⟨[vi a.Start], [vi a.Time, vi a.Int_, vu a.Re, vu a.Im, vi a.Hist.Scale, vu a.Hist.Zero, vi a.Hist.Pos.Offset, (Value.slice S T U), vi a.Hist.Neg.Offset, (Value.slice V W X), vi a.Flags], z, z, ⟨[vi a.Time], [vi a.Int_, vu a.Re, vu a.Im, vi a.Hist.Scale, vu a.Hist.Zero, vi a.Hist.Pos.Offset, (Value.slice S T U), vi a.Hist.Neg.Offset, (Value.slice V W X), vi a.Flags], z, z, ⟨[vi a.Int_], [vu a.Re, vu a.Im, vi a.Hist.Scale, vu a.Hist.Zero, vi a.Hist.Pos.Offset, (Value.slice S T U), vi a.Hist.Neg.Offset, (Value.slice V W X), vi a.Flags], z, z, ⟨[vu a.Re], [vu a.Im, vi a.Hist.Scale, vu a.Hist.Zero, vi a.Hist.Pos.Offset, (Value.slice S T U), vi a.Hist.Neg.Offset, (Value.slice V W X), vi a.Flags], z, z, ⟨[vu a.Im], [vi a.Hist.Scale, vu a.Hist.Zero, vi a.Hist.Pos.Offset, (Value.slice S T U), vi a.Hist.Neg.Offset, (Value.slice V W X), vi a.Flags], z, z, ⟨[vi a.Hist.Scale, vu a.Hist.Zero, vi a.Hist.Pos.Offset, (Value.slice S T U), vi a.Hist.Neg.Offset, (Value.slice V W X)], [vi a.Flags], z, ⟨[vi a.Hist.Scale], [vu a.Hist.Zero, vi a.Hist.Pos.Offset, (Value.slice S T U), vi a.Hist.Neg.Offset, (Value.slice V W X)], z, z, ⟨[vu a.Hist.Zero], [vi a.Hist.Pos.Offset, (Value.slice S T U), vi a.Hist.Neg.Offset, (Value.slice V W X)], z, z, ⟨[vi a.Hist.Pos.Offset, (Value.slice S T U)], [vi a.Hist.Neg.Offset, (Value.slice V W X)], z, ⟨[vi a.Hist.Pos.Offset], [(Value.slice S T U)], z, z, ⟨_, z, da⟩⟩, ⟨[vi a.Hist.Neg.Offset], [(Value.slice V W X)], z, z, ⟨_, z, db⟩⟩⟩⟩⟩, z⟩⟩⟩⟩⟩⟩⟩⟩⟩⟩⟩, z⟩ z ?_
       intro ol om nP aa iB
       obtain ⟨iC, d5, h⟩ := bnd h
       have iD := cn.st e z z z
       have iE := iD.st P z z z
       have iF := iE.st j z z z
       have iG := iF.st l z z z
       have iH := iG.st aa z z z
       refine WL.append (by decide) ty22 ty37 z (by decide) z z iH iB.src d5 z ?_
       intro mv mw nQ ac iI
       refine wY (ya z) z (nl (th (sq (rg (wY (ym z) z ?_)))))
       have iJ := io.st aa z
       have iK := iJ.st ac z
       refine wY (yL ty37 z z (iK.cells 0 [vs a6, (Value.slice a9 ba bb), vi aJ, vi aG, vB ak, vi aj, vi ad, vi ab, vu Z, vu Q, vi L, vu p, vi n, (Value.slice q r t), vi o, (Value.slice C D E), vi M] z) z) z ?_
       have iL := c6.f l z
       have iM := iL.f aa z
       have iN := iM.f ac z
       have iO := c7.f l z
       have iP := iO.f aa z
       have iQ := iP.f ac z
       have iR := c8.f l z
       have iS := iR.f aa z
       have iT := iS.f ac z
       refine WL.buildSlice (O := mw) (R := rep_api_Point) (vals := [(0, ag [vs a6, (Value.slice a9 ba bb), vi aJ, vi aG, vB ak, vi aj, vi ad, vi ab, vu Z, vu Q, vi L, vu p, vi n, (Value.slice q r t), vi o, (Value.slice C D E), vi M])]) 24 [vs a6, (Value.slice a9 ba bb), vi aJ, vi aG, vB ak, vi aj, vi ad, vi ab, vu Z, vu Q, vi L, vu p, vi n, (Value.slice q r t), vi o, (Value.slice C D E), vi M] (xs := [(api_Point.mk a6 mf aJ aG ak aj ad ab Z Q (api_Hist.mk L p (api_Side.mk n mg) (api_Side.mk o mh)) M)]) (by decide) ty22 ty37 (by decide) (by decide) (fe_ z) (by kernel_rfl) z ⟨[vs a6, (Value.slice a9 ba bb), vi aJ, vi aG, vB ak, vi aj, vi ad, vi ab, vu Z, vu Q, vi L, vu p, vi n, (Value.slice q r t), vi o, (Value.slice C D E), vi M], [], z, ⟨[vs a6], [(Value.slice a9 ba bb), vi aJ, vi aG, vB ak, vi aj, vi ad, vi ab, vu Z, vu Q, vi L, vu p, vi n, (Value.slice q r t), vi o, (Value.slice C D E), vi M], z, z, ⟨[(Value.slice a9 ba bb)], [vi aJ, vi aG, vB ak, vi aj, vi ad, vi ab, vu Z, vu Q, vi L, vu p, vi n, (Value.slice q r t), vi o, (Value.slice C D E), vi M], z, ⟨_, z, (Sl.mono iN frs_imm)⟩, ⟨[vi aJ], [vi aG, vB ak, vi aj, vi ad, vi ab, vu Z, vu Q, vi L, vu p, vi n, (Value.slice q r t), vi o, (Value.slice C D E), vi M], z, z, ⟨[vi aG], [vB ak, vi aj, vi ad, vi ab, vu Z, vu Q, vi L, vu p, vi n, (Value.slice q r t), vi o, (Value.slice C D E), vi M], z, z, ⟨[vB ak], [vi aj, vi ad, vi ab, vu Z, vu Q, vi L, vu p, vi n, (Value.slice q r t), vi o, (Value.slice C D E), vi M], z, z, ⟨[vi aj], [vi ad, vi ab, vu Z, vu Q, vi L, vu p, vi n, (Value.slice q r t), vi o, (Value.slice C D E), vi M], z, z, ⟨[vi ad], [vi ab, vu Z, vu Q, vi L, vu p, vi n, (Value.slice q r t), vi o, (Value.slice C D E), vi M], z, z, ⟨[vi ab], [vu Z, vu Q, vi L, vu p, vi n, (Value.slice q r t), vi o, (Value.slice C D E), vi M], z, z, ⟨[vu Z], [vu Q, vi L, vu p, vi n, (Value.slice q r t), vi o, (Value.slice C D E), vi M], z, z, ⟨[vu Q], [vi L, vu p, vi n, (Value.slice q r t), vi o, (Value.slice C D E), vi M], z, z, ⟨[vi L, vu p, vi n, (Value.slice q r t), vi o, (Value.slice C D E)], [vi M], z, ⟨[vi L], [vu p, vi n, (Value.slice q r t), vi o, (Value.slice C D E)], z, z, ⟨[vu p], [vi n, (Value.slice q r t), vi o, (Value.slice C D E)], z, z, ⟨[vi n, (Value.slice q r t)], [vi o, (Value.slice C D E)], z, ⟨[vi n], [(Value.slice q r t)], z, z, ⟨_, z, (Sl.mono iQ frs_imm)⟩⟩, ⟨[vi o], [(Value.slice C D E)], z, z, ⟨_, z, (Sl.mono iT frs_imm)⟩⟩⟩⟩⟩, z⟩⟩⟩⟩⟩⟩⟩⟩⟩⟩⟩, z⟩ z ?_
       intro oo op nR aK iU
       obtain ⟨iV, d6, h⟩ := bnd h
       have iW := co.st e z z z
       have iX := iW.st P z z z
       have iY := iX.st j z z z
       have iZ := iY.st l z z z
       have i0 := iZ.st aa z z z
       have i1 := i0.st ac z z z
       have i2 := i1.st aK z z z
       refine WL.append (by decide) ty22 ty37 z (by decide) z z i2 iU.src d6 z ?_
       intro mx oq nS a5 i3
       refine wY (ya z) z (nl (th (rg ?_)))
       have i4 := ii.st l z
       have i5 := i4.st aa z
       have i6 := i5.st ac z
       have i7 := i6.st aK z
       have i8 := i7.st a5 z
       refine wY (yL ty32 z z (i8.cells 0 [vB bu, vi bw, vi bx, vi bz, vu bA, vu bB, vi bC, vu bD, vi bE, (Value.slice bY bZ b0), vi bF, (Value.slice b1 b2 b3)] z) z) z ?_
       have i9 := b9.st e z
       have ja := i9.st P z
       have jb := ja.st j z
       have jc := jb.st l z
       have jd := jc.st aa z
       have je := jd.st ac z
       have jf := je.st aK z
       have jg := jf.st a5 z
       refine WL.store (v := ag [vB bu, vi bw, vi bx, vi bz, vu bA, vu bB, vi bC, vu bD, vi bE, (Value.slice bY bZ b0), vi bF, (Value.slice b1 b2 b3)]) (cells' := [vB bu, vi bw, vi bx, vi bz, vu bA, vu bB, vi bC, vu bD, vi bE, (Value.slice bY bZ b0), vi bF, (Value.slice b1 b2 b3)]) ty32 z z jg z (le_ z) z z ?_
       intro nT bc jh
       refine nl (At.inBlock ?_)
       have ji := iI.st aK z z z
       have jj := ji.st a5 z z z
       have jk := jj.st bc z z z
       obtain ⟨os, bd, jl⟩ := OwnSl.rlb 1005 rfl jk
       have jm := i3.st bc z z z
       have jn := jm.st bd z z z
       obtain ⟨my, bf, jo⟩ := OwnSl.rlb 1006 rfl jn
       have jp := jl.st bf z z z
       have jq := cr.f j z
       have jr := jq.f l z
       have js := jr.f aa z
       have jt := js.f ac z
       have ju := jt.f aK z
       have jv := ju.f a5 z
       have jw := jv.f bc z
       have jx := jw.f bd z
       have jy := jx.f bf z
       have jz := cs.f j z
       have jA := jz.f l z
       have jB := jA.f aa z
       have jC := jB.f ac z
       have jD := jC.f aK z
       have jE := jD.f a5 z
       have jF := jE.f bc z
       have jG := jF.f bd z
       have jH := jG.f bf z
       have jI := jh.st bd z
       have jJ := jI.st bf z
       exact At.join (σ := (List api_Point × List api_Point × Bool × Int × Int × Int × UInt64 × UInt64 × Int × UInt64 × Int × List UInt64 × Int × List UInt64 × Own × Value × Value × Value × Value)) (iC, iV, bu, bw, bx, bz, bA, bB, bC, bD, bE, md, bF, me, my, mv, mx, (Value.slice bY bZ b0), (Value.slice b1 b2 b3)) ⟨some1 h, (tr_ (su_ e z) (tr_ (su_ P z) (tr_ (su_ j z) (tr_ (su_ l z) (tr_ (su_ aa z) (tr_ (su_ ac z) (tr_ (su_ aK z) (tr_ (su_ a5 z) (tr_ (su_ bc z) (tr_ (su_ bd z) (su_ bf z))))))))))), jp, jo, jy, jH, jJ⟩ (.cons z (.cons z (.cons z (.cons z (.cons z (.cons z (.cons z .nil)))))))
      ·refine WC.condF' z ct (sk (At.inBlock ?_))
       have jK := cn.st e z z z
       have jL := jK.st P z z z
       have jM := jL.st j z z z
       have jN := jM.st l z z z
       obtain ⟨ot, bg, jO⟩ := OwnSl.rlb 1005 rfl jN
       have jP := co.st e z z z
       have jQ := jP.st P z z z
       have jR := jQ.st j z z z
       have jS := jR.st l z z z
       have jT := jS.st bg z z z
       obtain ⟨mz, bh, jU⟩ := OwnSl.rlb 1006 rfl jT
       have jV := jO.st bh z z z
       have jW := a7.f e z
       have jX := jW.f P z
       have jY := jX.f j z
       have jZ := jY.f l z
       have j0 := jZ.f bg z
       have j1 := j0.f bh z
       have j2 := a8.f e z
       have j3 := j2.f P z
       have j4 := j3.f j z
       have j5 := j4.f l z
       have j6 := j5.f bg z
       have j7 := j6.f bh z
       have j8 := b9.st e z
       have j9 := j8.st P z
       have ka := j9.st j z
       have kb := ka.st l z
       have kc := kb.st bg z
       have kd := kc.st bh z
       exact At.join (σ := (List api_Point × List api_Point × Bool × Int × Int × Int × UInt64 × UInt64 × Int × UInt64 × Int × List UInt64 × Int × List UInt64 × Own × Value × Value × Value × Value)) (cI, cm, aN, aO, aP, aQ, aR, aS, aT, aU, aW, b4, aX, b5, mz, cD, cE, b6, b7) ⟨some1 h, (tr_ (su_ e z) (tr_ (su_ P z) (tr_ (su_ j z) (tr_ (su_ l z) (tr_ (su_ bg z) (su_ bh z)))))), jV, jU, j1, j7, kd⟩ (.cons z (.cons z (.cons z (.cons z (.cons z (.cons z (.cons z .nil)))))))
    ·rintro ⟨ke, d7, mA, mB, mC, mD, mE, mF, mG, mH, mI, mJ, mK, mL, ou, d8, d9, mM, mN⟩ nU ⟨rfl, cF, dc, dd, de, df, dg⟩
     replace h := eo
     try dsimp only at h cF dc dd de df dg
     refine (show At _ _ _ [(0, v0), (1, vi a1), (6, pt bs 0), (7, d8), (8, d9), (9, pt aM 0), (10, vi ci)] _ from ?_)
     refine th (rg (wY (ym z) z (wY (Y.add_i z z) z ?_)))
     obtain ⟨mO, kf, h⟩ := lt1 h
     refine WL.yE (ya z) (congrArg vi kf.symm) z (nl ?_)
     obtain ⟨ov, bi, kg⟩ := OwnSl.rlb 1009 rfl dc
     have kh := dd.st bi z z z
     obtain ⟨mP, bj, ki⟩ := OwnSl.rlb 1010 rfl kh
     have kj := kg.st bj z z z
     have kk := de.f bi z
     have km := kk.f bj z
     have kn := df.f bi z
     have ko := kn.f bj z
     have kp := dg.st bi z
     have kq := kp.st bj z
     exact At.round (ke, d7, mA, mB, mC, mD, mE, mF, mG, mH, mI, mJ, mK, mL, mO, mP, d8, d9, mM, mN) ln (Nat.lt_succ_self _) ⟨next1 h cR, (tr_ (su_ b8 z) (tr_ (su_ cF z) (tr_ (su_ bi z) (su_ bj z)))), kj, ki, km, ko, kq⟩ (.cons z (.cons z (.cons z (.cons z (.cons z (.cons z (.cons z .nil)))))))
   ·refine WC.condF' z cp (WC.exit (At.thenX (At.loopX ?_)))
    obtain ⟨ow, bk, kr⟩ := OwnSl.rlb 1017 rfl cn
    have ks := co.st bk z z z
    obtain ⟨mQ, bl, kt⟩ := OwnSl.rlb 1018 rfl ks
    have ku := kr.st bl z z z
    have kv := a7.f bk z
    have kw := kv.f bl z
    have kx := a8.f bk z
    have ky := kx.f bl z
    have kz := b9.st bk z
    have kA := kz.st bl z
    exact At.hitB (σ := (List api_Point × List api_Point × Bool × Int × Int × Int × UInt64 × UInt64 × Int × UInt64 × Int × List UInt64 × Int × List UInt64 × Own × Value × Value × Value × Value)) (cI, cm, aN, aO, aP, aQ, aR, aS, aT, aU, aW, b4, aX, b5, mQ, cD, cE, b6, b7) ⟨brk1 h cR, (tr_ (su_ b8 z) (tr_ (su_ bk z) (su_ bl z))), ku, kt, kw, ky, kA⟩ (.cons z (.cons z (.cons z (.cons z .nil))))
  ·rintro ⟨mR, kB, m9, na, nb, nc, nd, ne, nf, ng, nh, ni, nj, mS, ox, lb, lc, nk, mT⟩ nV ⟨rfl, cG, ea, eb, ec, dh, ed⟩
   replace h := flowK_go ej
   try dsimp only at h cG ea eb ec dh ed
   refine (show At _ _ _ [(6, pt bs 0), (7, lb), (8, lc), (9, pt aM 0)] _ from ?_)
   refine At.inBlockHit ?_
   obtain ⟨oy, bm, kC⟩ := OwnSl.rlb 1035 rfl ea
   have kD := eb.st bm z z z
   obtain ⟨mU, bn, kE⟩ := OwnSl.rlb 1036 rfl kD
   have kF := kC.st bn z z z
   have kG := ec.f bm z
   have kH := kG.f bn z
   have kI := dh.f bm z
   have kJ := kI.f bn z
   have kK := ed.st bm z
   have kL := kK.st bn z
   exact At.join (σ := (List api_Point × List api_Point × Bool × Int × Int × Int × UInt64 × UInt64 × Int × UInt64 × Int × List UInt64 × Int × List UInt64 × Own × Value × Value × Value × Value)) (mR, kB, m9, na, nb, nc, nd, ne, nf, ng, nh, ni, nj, mS, mU, lb, lc, nk, mT) ⟨some1 h, (tr_ (su_ cG z) (tr_ (su_ bm z) (su_ bn z))), kF, kE, kH, kJ, kL⟩ (.cons z (.cons z (.cons z (.cons z .nil))))
 ·rintro ⟨oz, nW, di, dj, dk, dl, dm, dn, dp, dr, ds, oC, dt, oD, nm, ld, lf, nn, np⟩ oA ⟨rfl, cv, ee, ef, eg, eh, ei⟩
  replace h := ll
  try dsimp only at h cv ee ef eg eh ei
  refine (show At _ _ _ [(6, pt bs 0), (7, ld), (8, lf), (9, pt aM 0)] _ from ?_)
  refine th (sq (WC.draw 5 nm fmix (by kernel_rfl) ?_))
  intro nX aL
  refine WS.y (ym z) z (WS.y (ym z) z ?_)
  have kM := ei.st aL z
  refine WS.y (yL ty32 z z (kM.cells 0 [vB di, vi dj, vi dk, vi dl, vu dm, vu dn, vi dp, vu dr, vi ds, nn, vi dt, np] z) z) z (WS.y (ya z) z (WS.y (ya z) z (WS.tail ?_)))
  have du := eg.f aL z
  have kN := h
  obtain ⟨cw, cx, cy, rfl⟩ := du.shape
  have h := kN
  have dw := eh.f aL z
  have kO := h
  obtain ⟨cz, cA, cC, rfl⟩ := dw.shape
  have h := kO
  have kP := lh.st ck z
  have kQ := kP.st cl z
  have kR := kQ.st cv z
  have kS := kR.st aL z
  refine WL.store (v := ag [vB di, vi dj, vi dk, vi dl, vu dm, vu dn, vi dp, vu dr, vi ds, (Value.slice cw cx cy), vi dt, (Value.slice cz cA cC)]) (cells' := [vB di, vi dj, vi dk, vi dl, vu dm, vu dn, vi dp, vu dr, vi ds, (Value.slice cw cx cy), vi dt, (Value.slice cz cA cC)]) ty32 z z kS z (le_ z) z z ?_
  intro kT bo kU
  refine nl (th (rt ?_))
  obtain ⟨rfl, rfl, rfl⟩ := tup3 h
  have kV := ee.st aL z z z
  have kW := kV.st bo z z z
  obtain ⟨oB, bp, kX⟩ := OwnSl.give rfl kW
  have kY := ef.st aL z z z
  have kZ := kY.st bo z z z
  have k0 := kZ.st bp z z z
  obtain ⟨mV, bq, k1⟩ := OwnSl.give rfl k0
  have bR : Stp [11, 12, 13, 14, 15, 16, 17, 18, 19, 20, 21, 22, 24, 26, 1001, 1002, 1005, 1006, 1009, 1010, 1017, 1018, 1035, 1036] (Lg.O0 A) w mV kT := (tr_ (su_ cP z) (tr_ (su_ ck z) (tr_ (su_ cl z) (tr_ (su_ cv z) (tr_ (su_ aL z) (tr_ (su_ bo z) (tr_ (su_ bp z) (su_ bq z))))))))
  have k2 := kX.i bq z z
  have k3 := du.f bo z
  have k4 := k3.f bp z
  have k5 := k4.f bq z
  have k6 := dw.f bo z
  have k7 := k6.f bp z
  have k8 := k7.f bq z
  have k9 := kU.st bp z
  have la := k9.st bq z
  exact At.res (.inl z) z (.tmp z (.tmp z (.cell z (la.runAg 0 [vB di, vi dj, vi dk, vi dl, vu dm, vu dn, vi dp, vu dr, vi ds, (Value.slice cw cx cy), vi dt, (Value.slice cz cA cC)] ty32 z z z) .nil))) ⟨ld, lf, (Value.slice cw cx cy), (Value.slice cz cA cC), z, (se_ bR z z), (Sl.outI k2 bR low0 O0_A), (Sl.outI k1 bR low0 O0_A), (Sl.outF k5 bR low0), (Sl.outF k8 bR low0)⟩
theorem c_law15_TodeltaTiles {A : Nat → Prop} {a0 : List api_Point} {v0 : Value} {a1 : Int} {w : World} (hs0 : Sl rep_api_Point w A v0 a0) {r0 : Bool} (h : law15_TodeltaTiles a0 a1 = some r0) : Rets Try.prog 3 [v0, vi a1] w (fun v w' => v = vB r0 ∧ Ext w w') := by
 unfold law15_TodeltaTiles at h
 refine Rets.enter Try.func3 z z ?_
 have eN : Sl rep_api_Point w (imm (Lg.O0 A)) v0 a0 := (Sl.start hs0)
 refine (show WC _ _ _ _ [(0, v0), (1, vi a1)] _ from ?_)
 refine sq (rg (wY (ya z) z (nl (th (sq (sq (rg ?_)))))))
 obtain ⟨ie, eO, h⟩ := bnd h
 refine WL.call (vals := []) kok11 z z (c_law15_awake eO) ?_
 rintro hH eP ⟨rfl, eQ⟩
 obtain ⟨eC, f1, f2, Q⟩ := adoptE (Lg.O0 A) (fun k => 1) eQ
 refine wY (Y.not z) z (nl (th ?_))
 rcases cnd h with ⟨a3, h⟩ | ⟨a3, h⟩
 ·refine WC.condT' z a3 (sq (rg (wY (ya z) z (nl (th (rt (At.thenR ?_)))))))
  obtain rfl := some1 h
  have eR : Stp [] (Lg.O0 A) w eC eP := (su_ Q z)
  exact At.res (.inl z) z (.tmp z .nil) ⟨z, (se_ eR z z)⟩
 ·refine WC.condF' z a3 (sk (th (sq (sq (rg (wY (ym z) z ?_))))))
  have bj := eN.i Q z z
  obtain ⟨ig, eS, h⟩ := bnd h
  refine WL.call (vals := [v0]) kok12 z z (c_law15_one (A := fun _ => True) (Sl.all bj) eS) ?_
  rintro hI eT ⟨rfl, eU⟩
  obtain ⟨aX, f3, f4, S⟩ := adoptE eC (fun k => 1) eU
  refine wY (Y.not z) z (nl (th ?_))
  rcases cnd h with ⟨a4, h⟩ | ⟨a4, h⟩
  ·refine WC.condT' z a4 (sq (rg (wY (ya z) z (nl (th (rt (At.thenR ?_)))))))
   obtain rfl := some1 h
   have eV : Stp [] (Lg.O0 A) w aX eT := (tr_ (su_ Q z) (su_ S z))
   exact At.res (.inl z) z (.tmp z .nil) ⟨z, (se_ eV z z)⟩
  ·refine WC.condF' z a4 (sk (th (sq (rg (wY (ym z) z (wY (ym z) z ?_))))))
   have eW := bj.i S z z
   obtain ⟨⟨eD, eE, r⟩, eX, h⟩ := bnd h
   refine WL.call (vals := [v0, vi a1]) kok13 z z (c_law15_play (A := imm aX) eW eX) ?_
   rintro hJ ao ⟨n, o, f5, f6, rfl, eY, f7, f8, f9, ga⟩
   obtain ⟨aY, aZ, V, W⟩ := adoptE aX (fun k => 1) eY
   have ap : Sl rep_api_Point ao (imm aY) n eD := Sl.adoptI (O := aX) f7 (fun _ hk => hk) (fun _ _ => Nat.le_refl _) aZ V
   have eZ : Sl rep_api_Point ao (imm aY) o eE := Sl.adoptI (O := aX) f8 (fun _ hk => hk) (fun _ _ => Nat.le_refl _) aZ V
   have e0 : Sl Rep.u ao (frs aY) f5 r.Hist.Pos.Counts := Sl.adoptF f9 (fun k hk => ⟨hk, z⟩) V
   have e1 : Sl Rep.u ao (frs aY) f6 r.Hist.Neg.Counts := Sl.adoptF ga (fun k hk => ⟨hk, z⟩) V
   refine wY (ym z) z (wY (yx z z) z (wY (yx z z) z (wY (yx z z) z (WL.alloc (O := aY) 11 [vB false, vi 0, vi 0, vi 0, vu 0, vu 0, vi 0, vu 0, vi 0, Value.slice none 0 0, vi 0, Value.slice none 0 0] ty32 z z ?_))))
   intro ih bk hK I e2
   refine wY (ya z) z (wY (ya z) z ?_)
   have e5 := e0.f I z
   have e6 := h
   obtain ⟨eF, eG, eH, rfl⟩ := e5.shape
   have h := e6
   have e7 := e1.f I z
   have e8 := h
   obtain ⟨eI, eJ, eK, rfl⟩ := e7.shape
   have h := e8
   refine WL.store (v := ag [vB r.Some, vi r.Start, vi r.Time, vi r.Int_, vu r.Re, vu r.Im, vi r.Hist.Scale, vu r.Hist.Zero, vi r.Hist.Pos.Offset, (Value.slice eF eG eH), vi r.Hist.Neg.Offset, (Value.slice eI eJ eK)]) (cells' := [vB r.Some, vi r.Start, vi r.Time, vi r.Int_, vu r.Re, vu r.Im, vi r.Hist.Scale, vu r.Hist.Zero, vi r.Hist.Pos.Offset, (Value.slice eF eG eH), vi r.Hist.Neg.Offset, (Value.slice eI eJ eK)]) ty32 z z e2 z (le_ z) z z ?_
   intro bl P hL
   refine nl (th (sq (sq (rg (wY (ya z) z (nl (th (WC.block ?_))))))))
   obtain ⟨eL, h, al⟩ := flow1 h
   obtain ⟨eM, h⟩ := loop_some h
   refine WC.joinB 0 (σ := Own) (fun x w' => eL = .go () ∧ Stp [12] bk bl x w') (fun x => []) ?_ ?_
   ·refine WC.loop (σ := (Int × Own)) (fun x k w' => loopN k (law15_TodeltaTiles_lp1 eD eE) x.1 = some eL ∧ Stp [12] bk bl x.2 w') (fun x => [(5, n), (6, o), (8, vi x.1)]) (0, bk) eM (.cons z (.cons z (.cons z .nil))) ⟨h, (sr_ _ _ _)⟩ ?_
    rintro ⟨m, bm⟩ eM e9 ⟨h, J⟩
    obtain ⟨gb, ii, rfl, h, aj⟩ := rnd1 h
    unfold law15_TodeltaTiles_lp1 at h
    try dsimp only at h J
    refine (show WC _ _ _ _ [(5, n), (6, o), (8, vi m)] _ from ?_)
    refine sq (sq (rg (wY (ym z) z (wY (ym z) z ?_))))
    have fa := eZ.i I z z
    have fb := fa.i P z z
    have aq := fb.i J z z
    refine wY (Y.len ty22 z aq) z (wY (Y.lss_i z z) z (nl (th ?_)))
    rcases cnd h with ⟨a5, h⟩ | ⟨a5, h⟩
    ·refine WC.condT' z a5 (sk (th (sq ?_)))
     obtain ⟨gc, h, am⟩ := flow1 h
     refine WC.join (σ := Own) (fun x w' => gc = .go () ∧ Stp [12] bm e9 x w') (fun x => [(5, n), (6, o), (8, vi m)]) ?_ ?_
     ·refine WC.block (sq (rg (wY (ym z) z (wY (ym z) z ?_))))
      obtain ⟨a, fc, h⟩ := bnd h
      obtain ⟨hM, gd, ge, gG, b3, b4, b5, ar, bn, b6⟩ := Sl.at2 aq fc
      obtain ⟨_, _, rfl, rfl, ⟨_, _, rfl, ⟨fd, rfl, b7⟩, ⟨_, _, rfl, rfl, ⟨_, _, rfl, rfl, ⟨_, _, rfl, rfl, ⟨_, _, rfl, rfl, ⟨_, _, rfl, rfl, ⟨_, _, rfl, rfl, ⟨_, _, rfl, rfl, ⟨_, _, rfl, rfl, ⟨_, _, rfl, ⟨_, _, rfl, rfl, ⟨_, _, rfl, rfl, ⟨_, _, rfl, ⟨_, _, rfl, rfl, ⟨fe, rfl, b8⟩⟩, ⟨_, _, rfl, rfl, ⟨ff, rfl, b9⟩⟩⟩⟩⟩, rfl⟩⟩⟩⟩⟩⟩⟩⟩⟩⟩⟩ := bn
      replace ar : CellsAt _ _ _ [vs a.Name, fd, vi a.Kind, vi a.Temp, vB a.Mono, vi a.Start, vi a.Time, vi a.Int_, vu a.Re, vu a.Im, vi a.Hist.Scale, vu a.Hist.Zero, vi a.Hist.Pos.Offset, fe, vi a.Hist.Neg.Offset, ff, vi a.Flags] := ar
      have bo := CAt.imm ar b6
      refine wY (Y.indexAddr ty22 ty37 z b3 z b4 b5) z (wY (yL ty37 z z bo.at_ z) z (WL.alloc (O := bm) 12 [vs [], Value.slice none 0 0, vi 0, vi 0, vB false, vi 0, vi 0, vi 0, vu 0, vu 0, vi 0, vu 0, vi 0, Value.slice none 0 0, vi 0, Value.slice none 0 0, vi 0] ty37 z z ?_))
      intro t bp gH j ca
      have a6 := b7.i j z z
      have cb := h
      obtain ⟨au, av, aw, rfl⟩ := a6.shape
      have h := cb
      have a7 := b8.i j z z
      have cc := h
      obtain ⟨ax, ay, az, rfl⟩ := a7.shape
      have h := cc
      have a8 := b9.i j z z
      have cd := h
      obtain ⟨aA, aC, aD, rfl⟩ := a8.shape
      have h := cd
      refine WL.store (v := ag [vs a.Name, (Value.slice au av aw), vi a.Kind, vi a.Temp, vB a.Mono, vi a.Start, vi a.Time, vi a.Int_, vu a.Re, vu a.Im, vi a.Hist.Scale, vu a.Hist.Zero, vi a.Hist.Pos.Offset, (Value.slice ax ay az), vi a.Hist.Neg.Offset, (Value.slice aA aC aD), vi a.Flags]) (cells' := [vs a.Name, (Value.slice au av aw), vi a.Kind, vi a.Temp, vB a.Mono, vi a.Start, vi a.Time, vi a.Int_, vu a.Re, vu a.Im, vi a.Hist.Scale, vu a.Hist.Zero, vi a.Hist.Pos.Offset, (Value.slice ax ay az), vi a.Hist.Neg.Offset, (Value.slice aA aC aD), vi a.Flags]) ty37 z z ca z (le_ z) z z ?_
      intro gI l T
      refine nl (th (sq (sq (WC.drawH [] [0, 1, 2, 3, 4, 5, 6, 7, 8, 9, 10, 11, 12, 13, 14, 15, 16, 17, 18, 19, 20, 21, 22, 23, 24, 25] bp 26 fmix z (by kernel_rfl) ?_))))
      intro gJ c
      refine WD.y 0 z (by kernel_rfl) (fun gK hN bq => have ce := T.st c z; have cf := ce.st bq z; yL ty37 z z (cf.cells 0 [vs a.Name, (Value.slice au av aw), vi a.Kind, vi a.Temp, vB a.Mono, vi a.Start, vi a.Time, vi a.Int_, vu a.Re, vu a.Im, vi a.Hist.Scale, vu a.Hist.Zero, vi a.Hist.Pos.Offset, (Value.slice ax ay az), vi a.Hist.Neg.Offset, (Value.slice aA aC aD), vi a.Flags] z) z) z (WD.heavy 1 z (by kernel_rfl) ?_)
      have cg := a6.i l z z
      have ch := cg.i c z z
      have ci := a7.i l z z
      have cj := ci.i c z z
      have ck := a8.i l z z
      have cl := ck.i c z z
      obtain ⟨aE, cm, h⟩ := bnd h
      refine WL.call (vals := [ag [vs a.Name, (Value.slice au av aw), vi a.Kind, vi a.Temp, vB a.Mono, vi a.Start, vi a.Time, vi a.Int_, vu a.Re, vu a.Im, vi a.Hist.Scale, vu a.Hist.Zero, vi a.Hist.Pos.Offset, (Value.slice ax ay az), vi a.Hist.Neg.Offset, (Value.slice aA aC aD), vi a.Flags]]) kok14 z z (c_point_Check (A := fun _ => True) (a0 := a) (Sl.all ch) (Sl.all cj) (Sl.all cl) cm) ?_
      rintro gL X ⟨rfl, cn⟩
      obtain ⟨p, fY, f0, d⟩ := adoptE bp (fun k => 1) cn
      refine nl (At.dq (su_ d z) (WD.y 2 z (by kernel_rfl) (fun _ _ _ => Y.neq_i z z) z (WD.y 3 z (by kernel_rfl) (fun _ _ _ => ym z) z ?_)))
      refine WD.join (σ := Unit) (f' := 18) [7, 6, 5, 4, 3, 2, 1, 0] (fun _ O' w' => p = O' ∧ X = w') (fun _ => [(5, n), (6, o), (8, vi m), (9, pt t 0), (40, vB ((!decide (aE = 0)) || (!decide (a.Temp = 2))))]) (fun a9 => ?_) ?_
      ·refine WD.part 36 z (fun aF => ?_) (fun aF => ?_)
       ·refine WD.gS 4 z (by kernel_rfl) z z z z (WD.gS 5 z (by kernel_rfl) z z z z (WD.gS 6 z (by kernel_rfl) z z z z (WD.y 7 z (by kernel_rfl) (fun _ _ _ => Y.pick (b := true) z z) z (WD.ren (v' := vB ((!decide (aE = 0)) || (!decide (a.Temp = 2)))) 40 z (congrArg vB (orT aF)) ?_))))
        exact a9 () _ _ _ ⟨z, z⟩ (.cons z (.cons z (.cons z (.cons z (.cons z .nil)))))
       ·refine WD.gT 4 z (by kernel_rfl) z z (fun _ _ _ => yf fo37_3 z) z (WD.gT 5 z (by kernel_rfl) z z (fun gM hO br => have co := T.st c z; have cp := co.st d z; have cq := cp.st br z; yl ty3 z z (cq.cell 3 _ z)) z (WD.gT 6 z (by kernel_rfl) z z (fun _ _ _ => Y.neq_i z z) z (WD.y 7 z (by kernel_rfl) (fun _ _ _ => Y.pick (b := false) z z) z (WD.ren (v' := vB ((!decide (aE = 0)) || (!decide (a.Temp = 2)))) 40 z (congrArg vB (orF aF)) ?_))))
        exact a9 () _ _ _ ⟨z, z⟩ (.cons z (.cons z (.cons z (.cons z (.cons z .nil)))))
      ·rintro _ _ _ ⟨rfl, rfl⟩
       refine (show WD _ _ _ _ _ _ _ _ [(5, n), (6, o), (8, vi m), (9, pt t 0), (40, vB ((!decide (aE = 0)) || (!decide (a.Temp = 2))))] _ _ from ?_)
       refine WD.y 8 z (by kernel_rfl) (fun _ _ _ => ym z) z ?_
       obtain ⟨fg, h, cr⟩ := bnd h
       refine WD.join (σ := Bool) (f' := 8) [17, 16, 15, 14, 13, 12, 11, 10, 9, 8, 7, 6, 5, 4, 3, 2, 1, 0] (fun x O' w' => x = fg ∧ X = w' ∧ p = O') (fun x => [(5, n), (6, o), (8, vi m), (9, pt t 0), (50, vB x)]) (fun ba => ?_) ?_
       ·rcases cnd h with ⟨Z, h⟩ | ⟨Z, h⟩
        ·refine WD.ren 41 z (congrArg vB Z) (WD.gS 9 z (by kernel_rfl) z z z z (WD.gS 10 z (by kernel_rfl) z z z z (WD.gS 11 z (by kernel_rfl) z z z z (WD.gS 12 z (by kernel_rfl) z z z z (WD.gS 13 z (by kernel_rfl) z z z z (WD.gS 14 z (by kernel_rfl) z z z z (WD.gS 15 z (by kernel_rfl) z z z z (WD.gS 16 z (by kernel_rfl) z z z z (WD.y 17 z (by kernel_rfl) (fun _ _ _ => Y.pick (b := true) z z) z ?_)))))))))
         refine WD.ren 41 z (congrArg vB Z.symm) ?_
         exact ba true _ _ _ ⟨some1 h, z, z⟩ (.cons z (.cons z (.cons z (.cons z (.cons z .nil)))))
        ·refine WD.ren 41 z (congrArg vB Z) (WD.gT 9 z (by kernel_rfl) z z (fun _ _ _ => yf fo37_6 z) z (WD.gT 10 z (by kernel_rfl) z z (fun gO hP bs => have cs := T.st c z; have ct := cs.st d z; have cu := ct.st bs z; yl ty3 z z (cu.cell 6 _ z)) z (WD.gT 11 z (by kernel_rfl) z z (fun _ _ _ => ym z) z (WD.gT 12 z (by kernel_rfl) z z (fun _ _ _ => ym z) z ?_))))
         obtain ⟨C, cv, h⟩ := bnd h
         have cw := ap.i I z z
         have cx := cw.i P z z
         have cy := cx.i J z z
         have cz := cy.i j z z
         have cA := cz.i l z z
         have cC := cA.i c z z
         have cD := cC.i d z z
         obtain ⟨hQ, gf, gg, gP, cE, cF, cG, aG, bt, cH⟩ := Sl.at2 cD cv
         obtain ⟨_, _, rfl, rfl, ⟨_, _, rfl, ⟨fh, rfl, gQ⟩, ⟨_, _, rfl, rfl, ⟨_, _, rfl, rfl, ⟨_, _, rfl, rfl, ⟨_, _, rfl, rfl, ⟨_, _, rfl, rfl, ⟨_, _, rfl, rfl, ⟨_, _, rfl, rfl, ⟨_, _, rfl, rfl, ⟨_, _, rfl, ⟨_, _, rfl, rfl, ⟨_, _, rfl, rfl, ⟨_, _, rfl, ⟨_, _, rfl, rfl, ⟨fi, rfl, gR⟩⟩, ⟨_, _, rfl, rfl, ⟨fj, rfl, gU⟩⟩⟩⟩⟩, rfl⟩⟩⟩⟩⟩⟩⟩⟩⟩⟩⟩ := bt
         replace aG : CellsAt _ _ _ [vs C.Name, fh, vi C.Kind, vi C.Temp, vB C.Mono, vi C.Start, vi C.Time, vi C.Int_, vu C.Re, vu C.Im, vi C.Hist.Scale, vu C.Hist.Zero, vi C.Hist.Pos.Offset, fi, vi C.Hist.Neg.Offset, fj, vi C.Flags] := aG
         have bu := CAt.imm aG cH
         refine WD.gT 13 z (by kernel_rfl) z z (fun _ _ _ => Y.indexAddr ty22 ty37 z cE z cF cG) z (WD.gT 14 z (by kernel_rfl) z z (fun _ _ _ => yf fo37_6 z) z (WD.gT 15 z (by kernel_rfl) z z (fun gV hR bw => have cI := bu.st bw z; yl ty3 z z (cI.at_.sub 6 [vi C.Time] z)) z (WD.gT 16 z (by kernel_rfl) z z (fun _ _ _ => Y.neq_i z z) z (WD.y 17 z (by kernel_rfl) (fun _ _ _ => Y.pick (b := false) z z) z (WD.ren 41 z (congrArg vB Z.symm) ?_)))))
         exact ba (!decide (a.Time = C.Time)) _ _ _ ⟨some1 h, z, z⟩ (.cons z (.cons z (.cons z (.cons z (.cons z .nil)))))
       ·rintro an _ _ ⟨rfl, rfl, rfl⟩
        replace h := cr
        try dsimp only at h
        refine (show WD _ _ _ _ _ _ _ _ [(5, n), (6, o), (8, vi m), (9, pt t 0), (50, vB an)] _ _ from ?_)
        refine WD.y 18 z (by kernel_rfl) (fun _ _ _ => ym z) z ?_
        refine WD.join (σ := Unit) (f' := 0) [25, 24, 23, 22, 21, 20, 19, 18, 17, 16, 15, 14, 13, 12, 11, 10, 9, 8, 7, 6, 5, 4, 3, 2, 1, 0] (fun _ O' w' => p = O' ∧ X = w') (fun _ => [(5, n), (6, o), (8, vi m), (9, pt t 0), (58, vB (an || (!decide (decide (m = 0) = decide (a.Flags = 1)))))]) (fun bb => ?_) ?_
        ·refine WD.part 51 z (fun aH => ?_) (fun aH => ?_)
         ·refine WD.gS 19 z (by kernel_rfl) z z z z (WD.gS 20 z (by kernel_rfl) z z z z (WD.gS 21 z (by kernel_rfl) z z z z (WD.gS 22 z (by kernel_rfl) z z z z (WD.gS 23 z (by kernel_rfl) z z z z (WD.gS 24 z (by kernel_rfl) z z z z (WD.y 25 z (by kernel_rfl) (fun _ _ _ => Y.pick (b := true) z z) z (WD.ren (v' := vB (an || (!decide (decide (m = 0) = decide (a.Flags = 1))))) 58 z (congrArg vB (orT aH)) ?_)))))))
          exact bb () _ _ _ ⟨z, z⟩ (.cons z (.cons z (.cons z (.cons z (.cons z .nil)))))
         ·refine WD.gT 19 z (by kernel_rfl) z z (fun _ _ _ => ym z) z (WD.gT 20 z (by kernel_rfl) z z (fun _ _ _ => Y.eql_i z z) z (WD.gT 21 z (by kernel_rfl) z z (fun _ _ _ => yf fo37_11 z) z (WD.gT 22 z (by kernel_rfl) z z (fun gW hS bx => have cJ := T.st c z; have cK := cJ.st d z; have cL := cK.st bx z; yl ty3 z z (cL.cell 16 _ z)) z (WD.gT 23 z (by kernel_rfl) z z (fun _ _ _ => Y.eql_i z z) z (WD.gT 24 z (by kernel_rfl) z z (fun _ _ _ => Y.neqB z z ty4.u) z (WD.y 25 z (by kernel_rfl) (fun _ _ _ => Y.pick (b := false) z z) z (WD.ren (v' := vB (an || (!decide (decide (m = 0) = decide (a.Flags = 1))))) 58 z (congrArg vB (orF aH)) ?_)))))))
          exact bb () _ _ _ ⟨z, z⟩ (.cons z (.cons z (.cons z (.cons z (.cons z .nil)))))
        ·rintro _ _ _ ⟨rfl, rfl⟩
         refine (show WD _ _ _ _ _ _ _ _ [(5, n), (6, o), (8, vi m), (9, pt t 0), (58, vB (an || (!decide (decide (m = 0) = decide (a.Flags = 1)))))] _ _ from ?_)
         refine WD.done_ (by kernel_rfl) (th ?_)
         rcases cnd h with ⟨aI, h⟩ | ⟨aI, h⟩
         ·refine WC.condT' z aI (sq (rg (wY (ya z) z (nl (th (rt (At.thenR (At.inBlockR ?_))))))))
          have h := outs1 h am
          refine At.joinR (At.thenR (At.loopR ?_))
          have h := outr1 h aj al
          refine At.joinBR (At.inBlockR (At.thenR ?_))
          obtain rfl := some1 h
          have cM : Stp [11, 12] (Lg.O0 A) w p X := (tr_ (su_ Q z) (tr_ (su_ S z) (tr_ (su_ W z) (tr_ (su_ I z) (tr_ (su_ P z) (tr_ (su_ J z) (tr_ (su_ j z) (tr_ (su_ l z) (tr_ (su_ c z) (su_ d z))))))))))
          exact At.res (.inl z) z (.tmp z .nil) ⟨z, (se_ cM z z)⟩
         ·refine WC.condF' z aI (sk (th (sq (sq (rg (wY (ym z) z (wY (Y.eql_i z z) z (nl (th ?_)))))))))
          rcases cnd h with ⟨aJ, h⟩ | ⟨aJ, h⟩
          ·refine WC.condT' z aJ (sq (sq (WC.draw 6 p fmix (by kernel_rfl) ?_)))
           intro cN aa
           refine WS.y (yf fo37_5 z) z ?_
           have cO := T.st c z
           have cP := cO.st d z
           have cQ := cP.st aa z
           refine WS.y (yl ty3 z z (cQ.cell 5 _ z)) z (WS.y (ym z) z ?_)
           obtain ⟨K, cR, h⟩ := bnd h
           have cS := ap.i I z z
           have cT := cS.i P z z
           have cU := cT.i J z z
           have cV := cU.i j z z
           have cW := cV.i l z z
           have cX := cW.i c z z
           have cY := cX.i d z z
           have cZ := cY.i aa z z
           obtain ⟨hT, gh, gi, gX, c0, c1, c2, aK, bz, c3⟩ := Sl.at2 cZ cR
           obtain ⟨_, _, rfl, rfl, ⟨_, _, rfl, ⟨fk, rfl, gY⟩, ⟨_, _, rfl, rfl, ⟨_, _, rfl, rfl, ⟨_, _, rfl, rfl, ⟨_, _, rfl, rfl, ⟨_, _, rfl, rfl, ⟨_, _, rfl, rfl, ⟨_, _, rfl, rfl, ⟨_, _, rfl, rfl, ⟨_, _, rfl, ⟨_, _, rfl, rfl, ⟨_, _, rfl, rfl, ⟨_, _, rfl, ⟨_, _, rfl, rfl, ⟨fl, rfl, gZ⟩⟩, ⟨_, _, rfl, rfl, ⟨fm, rfl, g0⟩⟩⟩⟩⟩, rfl⟩⟩⟩⟩⟩⟩⟩⟩⟩⟩⟩ := bz
           replace aK : CellsAt _ _ _ [vs K.Name, fk, vi K.Kind, vi K.Temp, vB K.Mono, vi K.Start, vi K.Time, vi K.Int_, vu K.Re, vu K.Im, vi K.Hist.Scale, vu K.Hist.Zero, vi K.Hist.Pos.Offset, fl, vi K.Hist.Neg.Offset, fm, vi K.Flags] := aK
           have bA := CAt.imm aK c3
           refine WS.y (Y.indexAddr ty22 ty37 z c0 z c1 c2) z (WS.y (yf fo37_5 z) z (WS.y (yl ty3 z z (bA.at_.sub 5 [vi K.Start] z)) z (WS.tail (wY (Y.neq_i z z) z (nl (th ?_))))))
           rcases cnd h with ⟨aL, h⟩ | ⟨aL, h⟩
           ·refine WC.condT' z aL (sq (rg (wY (ya z) z (nl (th (rt (At.thenR (At.thenR (At.inBlockR ?_)))))))))
            have h := outs1 h am
            refine At.joinR (At.thenR (At.loopR ?_))
            have h := outr1 h aj al
            refine At.joinBR (At.inBlockR (At.thenR ?_))
            obtain rfl := some1 h
            have c4 : Stp [11, 12] (Lg.O0 A) w p cN := (tr_ (su_ Q z) (tr_ (su_ S z) (tr_ (su_ W z) (tr_ (su_ I z) (tr_ (su_ P z) (tr_ (su_ J z) (tr_ (su_ j z) (tr_ (su_ l z) (tr_ (su_ c z) (tr_ (su_ d z) (su_ aa z)))))))))))
            exact At.res (.inl z) z (.tmp z .nil) ⟨z, (se_ c4 z z)⟩
           ·refine WC.condF' z aL (sk (th (WC.exit (At.thenX (At.inBlockHit ?_)))))
            exact At.join (σ := Own) p ⟨go2 h, (tr_ (su_ j z) (tr_ (su_ l z) (tr_ (su_ c z) (tr_ (su_ d z) (su_ aa z)))))⟩ (.cons z (.cons z (.cons z .nil)))
          ·refine WC.condF' z aJ (sk (th (sq (rg (wY (yf fo37_11 z) z ?_)))))
           have c5 := T.st c z
           have U := c5.st d z
           refine wY (yl ty3 z z (U.cell 16 _ z)) z (wY (Y.eql_i z z) z (wY (ym z) z ?_))
           refine WL.cut 4 (σ := Unit) (fun _ w' => X = w') (fun _ => [(5, n), (6, o), (8, vi m), (9, pt t 0), (75, vB ((decide (a.Flags = 2)) || (decide (a.Flags = 10))))]) ?_ ?_
           ·refine WL.part 71 z (fun aM => ?_) (fun aM => ?_)
            ·refine WL.gS z z z z (WL.gS z z z z (WL.gS z z z z (wY (Y.pick (b := true) z z) z (WL.ren (v' := vB ((decide (a.Flags = 2)) || (decide (a.Flags = 10)))) 75 z (congrArg vB (orT aM)) ?_))))
             exact nl (At.join () z (.cons z (.cons z (.cons z (.cons z (.cons z .nil))))))
            ·refine ug z z (wY (yf fo37_11 z) z (ug z z (wY (yl ty3 z z (U.cell 16 _ z)) z (ug z z (wY (Y.eql_i z z) z (wY (Y.pick (b := false) z z) z (WL.ren (v' := vB ((decide (a.Flags = 2)) || (decide (a.Flags = 10)))) 75 z (congrArg vB (orF aM)) ?_)))))))
             exact nl (At.join () z (.cons z (.cons z (.cons z (.cons z (.cons z .nil))))))
           ·rintro _ _ rfl
            refine (show WL _ _ _ _ _ [(5, n), (6, o), (8, vi m), (9, pt t 0), (75, vB ((decide (a.Flags = 2)) || (decide (a.Flags = 10))))] _ from ?_)
            obtain ⟨e, a2, h⟩ := lt1 h
            refine WL.yE (ya z) (congrArg vB a2.symm) z (nl (th (sq (sq (WC.drawH [] [0, 1, 2, 3, 4, 5, 6, 7, 8, 9, 10, 11, 12, 13, 14, 15, 16, 17, 18, 19, 20, 21, 22, 23, 24, 25, 26, 27, 28, 29, 30, 31, 32, 33, 34, 35, 36] p 37 fmix z (by kernel_rfl) ?_)))))
            intro ab q
            refine WD.y 0 z (by kernel_rfl) (fun _ _ _ => ym z) z (WD.y 1 z (by kernel_rfl) (fun _ _ _ => Y.not z) z (WD.y 2 z (by kernel_rfl) (fun _ _ _ => ym z) z ?_))
            obtain ⟨fn, h, c6⟩ := bnd h
            refine WD.join (σ := Bool) (f' := 24) [12, 11, 10, 9, 8, 7, 6, 5, 4, 3, 2, 1, 0] (fun x O' w' => x = fn ∧ ab = w' ∧ p = O') (fun x => [(5, n), (6, o), (8, vi m), (9, pt t 0), (10, vB e), (88, vB x)]) (fun bc => ?_) ?_
            ·rcases cnd h with ⟨ac, h⟩ | ⟨ac, h⟩
             ·refine WD.ren 78 z (congrArg vB ac) (WD.gT 3 z (by kernel_rfl) z z (fun _ _ _ => yf fo37_5 z) z (WD.gT 4 z (by kernel_rfl) z z (fun g1 hU bB => have c7 := U.st q z; have c8 := c7.st bB z; yl ty3 z z (c8.cell 5 _ z)) z (WD.gT 5 z (by kernel_rfl) z z (fun _ _ _ => ym z) z (WD.gT 6 z (by kernel_rfl) z z (fun _ _ _ => ym z) z (WD.gT 7 z (by kernel_rfl) z z (fun _ _ _ => Y.sub_i z z) z ?_)))))
              obtain ⟨D, c9, h⟩ := bnd h
              have da := aq.i j z z
              have db := da.i l z z
              have dc := db.i c z z
              have dd := dc.i d z z
              have de := dd.i q z z
              obtain ⟨hV, gj, gk, g2, df, dg, dh, aN, bC, di⟩ := Sl.at2 de c9
              obtain ⟨_, _, rfl, rfl, ⟨_, _, rfl, ⟨fo, rfl, g3⟩, ⟨_, _, rfl, rfl, ⟨_, _, rfl, rfl, ⟨_, _, rfl, rfl, ⟨_, _, rfl, rfl, ⟨_, _, rfl, rfl, ⟨_, _, rfl, rfl, ⟨_, _, rfl, rfl, ⟨_, _, rfl, rfl, ⟨_, _, rfl, ⟨_, _, rfl, rfl, ⟨_, _, rfl, rfl, ⟨_, _, rfl, ⟨_, _, rfl, rfl, ⟨fp, rfl, g4⟩⟩, ⟨_, _, rfl, rfl, ⟨fq, rfl, g5⟩⟩⟩⟩⟩, rfl⟩⟩⟩⟩⟩⟩⟩⟩⟩⟩⟩ := bC
              replace aN : CellsAt _ _ _ [vs D.Name, fo, vi D.Kind, vi D.Temp, vB D.Mono, vi D.Start, vi D.Time, vi D.Int_, vu D.Re, vu D.Im, vi D.Hist.Scale, vu D.Hist.Zero, vi D.Hist.Pos.Offset, fp, vi D.Hist.Neg.Offset, fq, vi D.Flags] := aN
              have bD := CAt.imm aN di
              refine WD.gT 8 z (by kernel_rfl) z z (fun _ _ _ => Y.indexAddr ty22 ty37 z df z dg dh) z (WD.gT 9 z (by kernel_rfl) z z (fun _ _ _ => yf fo37_6 z) z (WD.gT 10 z (by kernel_rfl) z z (fun g6 hW bE => have dj := bD.st bE z; yl ty3 z z (dj.at_.sub 6 [vi D.Time] z)) z (WD.gT 11 z (by kernel_rfl) z z (fun _ _ _ => Y.neq_i z z) z (WD.y 12 z (by kernel_rfl) (fun _ _ _ => Y.pick (b := true) z z) z (WD.ren 78 z (congrArg vB ac.symm) ?_)))))
              exact bc (!decide (a.Start = D.Time)) _ _ _ ⟨some1 h, z, z⟩ (.cons z (.cons z (.cons z (.cons z (.cons z (.cons z .nil))))))
             ·refine WD.ren 78 z (congrArg vB ac) (WD.gS 3 z (by kernel_rfl) z z z z (WD.gS 4 z (by kernel_rfl) z z z z (WD.gS 5 z (by kernel_rfl) z z z z (WD.gS 6 z (by kernel_rfl) z z z z (WD.gS 7 z (by kernel_rfl) z z z z (WD.gS 8 z (by kernel_rfl) z z z z (WD.gS 9 z (by kernel_rfl) z z z z (WD.gS 10 z (by kernel_rfl) z z z z (WD.gS 11 z (by kernel_rfl) z z z z ?_)))))))))
              refine WD.y 12 z (by kernel_rfl) (fun _ _ _ => Y.pick (b := false) z z) z (WD.ren 78 z (congrArg vB ac.symm) ?_)
              exact bc false _ _ _ ⟨some1 h, z, z⟩ (.cons z (.cons z (.cons z (.cons z (.cons z (.cons z .nil))))))
            ·rintro fr _ _ ⟨rfl, rfl, rfl⟩
             replace h := c6
             try dsimp only at h
             refine (show WD _ _ _ _ _ _ _ _ [(5, n), (6, o), (8, vi m), (9, pt t 0), (10, vB e), (88, vB fr)] _ _ from ?_)
             refine WD.y 13 z (by kernel_rfl) (fun _ _ _ => ym z) z ?_
             obtain ⟨fs, h, dk⟩ := bnd h
             refine WD.join (σ := Bool) (f' := 11) [25, 24, 23, 22, 21, 20, 19, 18, 17, 16, 15, 14, 13, 12, 11, 10, 9, 8, 7, 6, 5, 4, 3, 2, 1, 0] (fun x O' w' => x = fs ∧ ab = w' ∧ p = O') (fun x => [(5, n), (6, o), (8, vi m), (9, pt t 0), (10, vB e), (101, vB x)]) (fun bd => ?_) ?_
             ·rcases cnd h with ⟨ad, h⟩ | ⟨ad, h⟩
              ·refine WD.ren 89 z (congrArg vB ad) (WD.gS 14 z (by kernel_rfl) z z z z (WD.gS 15 z (by kernel_rfl) z z z z (WD.gS 16 z (by kernel_rfl) z z z z (WD.gS 17 z (by kernel_rfl) z z z z (WD.gS 18 z (by kernel_rfl) z z z z (WD.gS 19 z (by kernel_rfl) z z z z (WD.gS 20 z (by kernel_rfl) z z z z (WD.gS 21 z (by kernel_rfl) z z z z (WD.gS 22 z (by kernel_rfl) z z z z ?_)))))))))
               refine WD.gS 23 z (by kernel_rfl) z z z z (WD.gS 24 z (by kernel_rfl) z z z z (WD.y 25 z (by kernel_rfl) (fun _ _ _ => Y.pick (b := true) z z) z (WD.ren 89 z (congrArg vB ad.symm) ?_)))
               exact bd true _ _ _ ⟨some1 h, z, z⟩ (.cons z (.cons z (.cons z (.cons z (.cons z (.cons z .nil))))))
              ·refine WD.ren 89 z (congrArg vB ad) (WD.gT 14 z (by kernel_rfl) z z (fun _ _ _ => ym z) z (WD.gT 15 z (by kernel_rfl) z z (fun _ _ _ => ym z) z ?_))
               obtain ⟨ft, h, dl⟩ := bnd h
               refine WD.join (σ := Bool) (f' := 12) [24, 23, 22, 21, 20, 19, 18, 17, 16, 15, 14, 13, 12, 11, 10, 9, 8, 7, 6, 5, 4, 3, 2, 1, 0] (fun x O' w' => x = ft ∧ ab = w' ∧ p = O') (fun x => [(5, n), (6, o), (8, vi m), (9, pt t 0), (10, vB e), (89, vB false), (90, vB e), (91, vB e), (100, vB x)]) (fun bf => ?_) ?_
               ·rcases cnd h with ⟨ae, h⟩ | ⟨ae, h⟩
                ·refine WD.ren 91 z (congrArg vB ae) (WD.gT 16 z (by kernel_rfl) z z (fun _ _ _ => yf fo37_5 z) z (WD.gT 17 z (by kernel_rfl) z z (fun g7 hX bF => have dm := U.st q z; have dn := dm.st bF z; yl ty3 z z (dn.cell 5 _ z)) z (WD.gT 18 z (by kernel_rfl) z z (fun _ _ _ => ym z) z (WD.gT 19 z (by kernel_rfl) z z (fun _ _ _ => ym z) z ?_))))
                 obtain ⟨E, dp, h⟩ := bnd h
                 have dr := ap.i I z z
                 have ds := dr.i P z z
                 have dt := ds.i J z z
                 have du := dt.i j z z
                 have dw := du.i l z z
                 have dx := dw.i c z z
                 have dy := dx.i d z z
                 have dz := dy.i q z z
                 obtain ⟨hY, gl, gm, g8, dA, dB, dC, aO, bG, dD⟩ := Sl.at2 dz dp
                 obtain ⟨_, _, rfl, rfl, ⟨_, _, rfl, ⟨fu, rfl, g9⟩, ⟨_, _, rfl, rfl, ⟨_, _, rfl, rfl, ⟨_, _, rfl, rfl, ⟨_, _, rfl, rfl, ⟨_, _, rfl, rfl, ⟨_, _, rfl, rfl, ⟨_, _, rfl, rfl, ⟨_, _, rfl, rfl, ⟨_, _, rfl, ⟨_, _, rfl, rfl, ⟨_, _, rfl, rfl, ⟨_, _, rfl, ⟨_, _, rfl, rfl, ⟨fv, rfl, ha⟩⟩, ⟨_, _, rfl, rfl, ⟨fw, rfl, hc⟩⟩⟩⟩⟩, rfl⟩⟩⟩⟩⟩⟩⟩⟩⟩⟩⟩ := bG
                 replace aO : CellsAt _ _ _ [vs E.Name, fu, vi E.Kind, vi E.Temp, vB E.Mono, vi E.Start, vi E.Time, vi E.Int_, vu E.Re, vu E.Im, vi E.Hist.Scale, vu E.Hist.Zero, vi E.Hist.Pos.Offset, fv, vi E.Hist.Neg.Offset, fw, vi E.Flags] := aO
                 have bH := CAt.imm aO dD
                 refine WD.gT 20 z (by kernel_rfl) z z (fun _ _ _ => Y.indexAddr ty22 ty37 z dA z dB dC) z (WD.gT 21 z (by kernel_rfl) z z (fun _ _ _ => yf fo37_5 z) z (WD.gT 22 z (by kernel_rfl) z z (fun hd hZ bI => have dE := bH.st bI z; yl ty3 z z (dE.at_.sub 5 [vi E.Start] z)) z (WD.gT 23 z (by kernel_rfl) z z (fun _ _ _ => Y.neq_i z z) z (WD.gT 24 z (by kernel_rfl) z z (fun _ _ _ => Y.pick (b := true) z z) z (WD.ren 91 z (congrArg vB ae.symm) ?_)))))
                 exact bf (!decide (a.Start = E.Start)) _ _ _ ⟨some1 h, z, z⟩ (.cons z (.cons z (.cons z (.cons z (.cons z (.cons z (.cons z (.cons z (.cons z .nil)))))))))
                ·refine WD.ren 91 z (congrArg vB ae) (WD.gS 16 z (by kernel_rfl) z z z z (WD.gS 17 z (by kernel_rfl) z z z z (WD.gS 18 z (by kernel_rfl) z z z z (WD.gS 19 z (by kernel_rfl) z z z z (WD.gS 20 z (by kernel_rfl) z z z z (WD.gS 21 z (by kernel_rfl) z z z z (WD.gS 22 z (by kernel_rfl) z z z z (WD.gS 23 z (by kernel_rfl) z z z z (WD.gT 24 z (by kernel_rfl) z z (fun _ _ _ => Y.pick (b := false) z z) z ?_)))))))))
                 refine WD.ren 91 z (congrArg vB ae.symm) ?_
                 exact bf false _ _ _ ⟨some1 h, z, z⟩ (.cons z (.cons z (.cons z (.cons z (.cons z (.cons z (.cons z (.cons z (.cons z .nil)))))))))
               ·rintro bJ _ _ ⟨rfl, rfl, rfl⟩
                replace h := dl
                try dsimp only at h
                refine (show WD _ _ _ _ _ _ _ _ [(5, n), (6, o), (8, vi m), (9, pt t 0), (10, vB e), (89, vB false), (90, vB e), (91, vB e), (100, vB bJ)] _ _ from ?_)
                refine WD.y 25 z (by kernel_rfl) (fun _ _ _ => Y.pick (b := false) z z) z (WD.ren 89 z (congrArg vB ad.symm) ?_)
                exact bd bJ _ _ _ ⟨some1 h, z, z⟩ (.cons z (.cons z (.cons z (.cons z (.cons z (.cons z .nil))))))
             ·rintro fx _ _ ⟨rfl, rfl, rfl⟩
              replace h := dk
              try dsimp only at h
              refine (show WD _ _ _ _ _ _ _ _ [(5, n), (6, o), (8, vi m), (9, pt t 0), (10, vB e), (101, vB fx)] _ _ from ?_)
              refine WD.y 26 z (by kernel_rfl) (fun _ _ _ => ym z) z ?_
              obtain ⟨fy, h, dF⟩ := bnd h
              refine WD.join (σ := Bool) (f' := 0) [36, 35, 34, 33, 32, 31, 30, 29, 28, 27, 26, 25, 24, 23, 22, 21, 20, 19, 18, 17, 16, 15, 14, 13, 12, 11, 10, 9, 8, 7, 6, 5, 4, 3, 2, 1, 0] (fun x O' w' => x = fy ∧ ab = w' ∧ p = O') (fun x => [(5, n), (6, o), (8, vi m), (9, pt t 0), (10, vB e), (112, vB x)]) (fun bg => ?_) ?_
              ·rcases cnd h with ⟨af, h⟩ | ⟨af, h⟩
               ·refine WD.ren 102 z (congrArg vB af) (WD.gS 27 z (by kernel_rfl) z z z z (WD.gS 28 z (by kernel_rfl) z z z z (WD.gS 29 z (by kernel_rfl) z z z z (WD.gS 30 z (by kernel_rfl) z z z z (WD.gS 31 z (by kernel_rfl) z z z z (WD.gS 32 z (by kernel_rfl) z z z z (WD.gS 33 z (by kernel_rfl) z z z z (WD.gS 34 z (by kernel_rfl) z z z z (WD.gS 35 z (by kernel_rfl) z z z z ?_)))))))))
                refine WD.y 36 z (by kernel_rfl) (fun _ _ _ => Y.pick (b := true) z z) z (WD.ren 102 z (congrArg vB af.symm) ?_)
                exact bg true _ _ _ ⟨some1 h, z, z⟩ (.cons z (.cons z (.cons z (.cons z (.cons z (.cons z .nil))))))
               ·refine WD.ren 102 z (congrArg vB af) (WD.gT 27 z (by kernel_rfl) z z (fun _ _ _ => yf fo37_5 z) z (WD.gT 28 z (by kernel_rfl) z z (fun he h0 bK => have dG := U.st q z; have dH := dG.st bK z; yl ty3 z z (dH.cell 5 _ z)) z (WD.gT 29 z (by kernel_rfl) z z (fun _ _ _ => ym z) z (WD.gT 30 z (by kernel_rfl) z z (fun _ _ _ => ym z) z (WD.gT 31 z (by kernel_rfl) z z (fun _ _ _ => Y.sub_i z z) z ?_)))))
                obtain ⟨F, dI, h⟩ := bnd h
                have dJ := aq.i j z z
                have dK := dJ.i l z z
                have dL := dK.i c z z
                have dM := dL.i d z z
                have dN := dM.i q z z
                obtain ⟨h1, gn, gp, hf, dO, dP, dQ, aP, bL, dR⟩ := Sl.at2 dN dI
                obtain ⟨_, _, rfl, rfl, ⟨_, _, rfl, ⟨fz, rfl, hg⟩, ⟨_, _, rfl, rfl, ⟨_, _, rfl, rfl, ⟨_, _, rfl, rfl, ⟨_, _, rfl, rfl, ⟨_, _, rfl, rfl, ⟨_, _, rfl, rfl, ⟨_, _, rfl, rfl, ⟨_, _, rfl, rfl, ⟨_, _, rfl, ⟨_, _, rfl, rfl, ⟨_, _, rfl, rfl, ⟨_, _, rfl, ⟨_, _, rfl, rfl, ⟨fA, rfl, hh⟩⟩, ⟨_, _, rfl, rfl, ⟨fB, rfl, hi⟩⟩⟩⟩⟩, rfl⟩⟩⟩⟩⟩⟩⟩⟩⟩⟩⟩ := bL
                replace aP : CellsAt _ _ _ [vs F.Name, fz, vi F.Kind, vi F.Temp, vB F.Mono, vi F.Start, vi F.Time, vi F.Int_, vu F.Re, vu F.Im, vi F.Hist.Scale, vu F.Hist.Zero, vi F.Hist.Pos.Offset, fA, vi F.Hist.Neg.Offset, fB, vi F.Flags] := aP
                have bM := CAt.imm aP dR
                refine WD.gT 32 z (by kernel_rfl) z z (fun _ _ _ => Y.indexAddr ty22 ty37 z dO z dP dQ) z (WD.gT 33 z (by kernel_rfl) z z (fun _ _ _ => yf fo37_6 z) z (WD.gT 34 z (by kernel_rfl) z z (fun hj h2 bO => have dS := bM.st bO z; yl ty3 z z (dS.at_.sub 6 [vi F.Time] z)) z (WD.gT 35 z (by kernel_rfl) z z (fun _ _ _ => Y.lss_i z z) z (WD.y 36 z (by kernel_rfl) (fun _ _ _ => Y.pick (b := false) z z) z (WD.ren 102 z (congrArg vB af.symm) ?_)))))
                exact bg (decide (a.Start < F.Time)) _ _ _ ⟨some1 h, z, z⟩ (.cons z (.cons z (.cons z (.cons z (.cons z (.cons z .nil))))))
              ·rintro fC _ _ ⟨rfl, rfl, rfl⟩
               replace h := dF
               try dsimp only at h
               refine (show WD _ _ _ _ _ _ _ _ [(5, n), (6, o), (8, vi m), (9, pt t 0), (10, vB e), (112, vB fC)] _ _ from ?_)
               refine WD.done_ (by kernel_rfl) (th ?_)
               rcases cnd h with ⟨aQ, h⟩ | ⟨aQ, h⟩
               ·refine WC.condT' z aQ (sq (rg (wY (ya z) z (nl (th (rt (At.thenR (At.inBlockR ?_))))))))
                have h := outs1 h am
                refine At.joinR (At.thenR (At.loopR ?_))
                have h := outr1 h aj al
                refine At.joinBR (At.inBlockR (At.thenR ?_))
                obtain rfl := some1 h
                have dT : Stp [11, 12] (Lg.O0 A) w p ab := (tr_ (su_ Q z) (tr_ (su_ S z) (tr_ (su_ W z) (tr_ (su_ I z) (tr_ (su_ P z) (tr_ (su_ J z) (tr_ (su_ j z) (tr_ (su_ l z) (tr_ (su_ c z) (tr_ (su_ d z) (su_ q z)))))))))))
                exact At.res (.inl z) z (.tmp z .nil) ⟨z, (se_ dT z z)⟩
               ·refine WC.condF' z aQ (sk (th (sq (WC.drawH [] [0, 1, 2, 3, 4, 5, 6, 7, 8, 9, 10, 11, 12, 13, 14, 15, 16, 17, 18, 19, 20, 21, 22, 23, 24, 25, 26, 27, 28, 29, 30, 31] p 32 fmix z (by kernel_rfl) ?_))))
                intro bh ah
                refine WD.y 0 z (by kernel_rfl) (fun _ _ _ => yf fo37_11 z) z (WD.y 1 z (by kernel_rfl) (fun hl h3 bP => have dU := U.st q z; have dV := dU.st ah z; have dW := dV.st bP z; yl ty3 z z (dW.cell 16 _ z)) z (WD.y 2 z (by kernel_rfl) (fun _ _ _ => Y.eql_i z z) z (WD.y 3 z (by kernel_rfl) (fun _ _ _ => ym z) z (WD.y 4 z (by kernel_rfl) (fun _ _ _ => ym z) z ?_))))
                obtain ⟨L, dX, h⟩ := bnd h
                have dY := ap.i I z z
                have dZ := dY.i P z z
                have d0 := dZ.i J z z
                have d1 := d0.i j z z
                have d2 := d1.i l z z
                have d3 := d2.i c z z
                have d4 := d3.i d z z
                have d5 := d4.i q z z
                have ak := d5.i ah z z
                obtain ⟨h4, gq, gr, hm, d6, d7, d8, aR, bQ, d9⟩ := Sl.at2 ak dX
                obtain ⟨_, _, rfl, rfl, ⟨_, _, rfl, ⟨fD, rfl, hn⟩, ⟨_, _, rfl, rfl, ⟨_, _, rfl, rfl, ⟨_, _, rfl, rfl, ⟨_, _, rfl, rfl, ⟨_, _, rfl, rfl, ⟨_, _, rfl, rfl, ⟨_, _, rfl, rfl, ⟨_, _, rfl, rfl, ⟨_, _, rfl, ⟨_, _, rfl, rfl, ⟨_, _, rfl, rfl, ⟨_, _, rfl, ⟨_, _, rfl, rfl, ⟨fF, rfl, ho⟩⟩, ⟨_, _, rfl, rfl, ⟨fG, rfl, hp⟩⟩⟩⟩⟩, rfl⟩⟩⟩⟩⟩⟩⟩⟩⟩⟩⟩ := bQ
                replace aR : CellsAt _ _ _ [vs L.Name, fD, vi L.Kind, vi L.Temp, vB L.Mono, vi L.Start, vi L.Time, vi L.Int_, vu L.Re, vu L.Im, vi L.Hist.Scale, vu L.Hist.Zero, vi L.Hist.Pos.Offset, fF, vi L.Hist.Neg.Offset, fG, vi L.Flags] := aR
                have bR := CAt.imm aR d9
                refine WD.y 5 z (by kernel_rfl) (fun _ _ _ => Y.indexAddr ty22 ty37 z d6 z d7 d8) z (WD.y 6 z (by kernel_rfl) (fun _ _ _ => yf fo37_5 z) z (WD.y 7 z (by kernel_rfl) (fun hq h5 bS => have ea := bR.st bS z; yl ty3 z z (ea.at_.sub 5 [vi L.Start] z)) z (WD.y 8 z (by kernel_rfl) (fun _ _ _ => ym z) z (WD.y 9 z (by kernel_rfl) (fun _ _ _ => ym z) z (WD.y 10 z (by kernel_rfl) (fun _ _ _ => Y.sub_i z z) z ?_)))))
                obtain ⟨M, eb, h⟩ := bnd h
                obtain ⟨h6, gs, gt, hr, ec, ed, ee, aS, bT, ef⟩ := Sl.at2 ak eb
                obtain ⟨_, _, rfl, rfl, ⟨_, _, rfl, ⟨fH, rfl, hs⟩, ⟨_, _, rfl, rfl, ⟨_, _, rfl, rfl, ⟨_, _, rfl, rfl, ⟨_, _, rfl, rfl, ⟨_, _, rfl, rfl, ⟨_, _, rfl, rfl, ⟨_, _, rfl, rfl, ⟨_, _, rfl, rfl, ⟨_, _, rfl, ⟨_, _, rfl, rfl, ⟨_, _, rfl, rfl, ⟨_, _, rfl, ⟨_, _, rfl, rfl, ⟨fI, rfl, ht⟩⟩, ⟨_, _, rfl, rfl, ⟨fJ, rfl, hu⟩⟩⟩⟩⟩, rfl⟩⟩⟩⟩⟩⟩⟩⟩⟩⟩⟩ := bT
                replace aS : CellsAt _ _ _ [vs M.Name, fH, vi M.Kind, vi M.Temp, vB M.Mono, vi M.Start, vi M.Time, vi M.Int_, vu M.Re, vu M.Im, vi M.Hist.Scale, vu M.Hist.Zero, vi M.Hist.Pos.Offset, fI, vi M.Hist.Neg.Offset, fJ, vi M.Flags] := aS
                have bU := CAt.imm aS ef
                refine WD.y 11 z (by kernel_rfl) (fun _ _ _ => Y.indexAddr ty22 ty37 z ec z ed ee) z (WD.y 12 z (by kernel_rfl) (fun _ _ _ => yf fo37_6 z) z (WD.y 13 z (by kernel_rfl) (fun hv h7 bW => have eg := bU.st bW z; yl ty3 z z (eg.at_.sub 6 [vi M.Time] z)) z (WD.y 14 z (by kernel_rfl) (fun _ _ _ => Y.gtr_i z z) z (WD.y 15 z (by kernel_rfl) (fun _ _ _ => Y.neqB z z ty4.u) z (WD.y 16 z (by kernel_rfl) (fun _ _ _ => ym z) z ?_)))))
                obtain ⟨fK, h, eh⟩ := bnd h
                refine WD.join (σ := Bool) (f' := 0) [31, 30, 29, 28, 27, 26, 25, 24, 23, 22, 21, 20, 19, 18, 17, 16, 15, 14, 13, 12, 11, 10, 9, 8, 7, 6, 5, 4, 3, 2, 1, 0] (fun x O' w' => x = fK ∧ bh = w' ∧ p = O') (fun x => [(5, n), (6, o), (8, vi m), (144, vB x)]) (fun bi => ?_) ?_
                ·rcases cnd h with ⟨ai, h⟩ | ⟨ai, h⟩
                 ·refine WD.ren 129 z (congrArg vB ai) (WD.gS 17 z (by kernel_rfl) z z z z (WD.gS 18 z (by kernel_rfl) z z z z (WD.gS 19 z (by kernel_rfl) z z z z (WD.gS 20 z (by kernel_rfl) z z z z (WD.gS 21 z (by kernel_rfl) z z z z (WD.gS 22 z (by kernel_rfl) z z z z (WD.gS 23 z (by kernel_rfl) z z z z (WD.gS 24 z (by kernel_rfl) z z z z (WD.gS 25 z (by kernel_rfl) z z z z ?_)))))))))
                  refine WD.gS 26 z (by kernel_rfl) z z z z (WD.gS 27 z (by kernel_rfl) z z z z (WD.gS 28 z (by kernel_rfl) z z z z (WD.gS 29 z (by kernel_rfl) z z z z (WD.gS 30 z (by kernel_rfl) z z z z (WD.y 31 z (by kernel_rfl) (fun _ _ _ => Y.pick (b := true) z z) z (WD.ren 129 z (congrArg vB ai.symm) ?_))))))
                  exact bi true _ _ _ ⟨some1 h, z, z⟩ (.cons z (.cons z (.cons z (.cons z .nil))))
                 ·refine WD.ren 129 z (congrArg vB ai) (WD.gT 17 z (by kernel_rfl) z z (fun _ _ _ => ym z) z (WD.gT 18 z (by kernel_rfl) z z (fun _ _ _ => ym z) z (WD.gT 19 z (by kernel_rfl) z z (fun _ _ _ => ym z) z ?_)))
                  obtain ⟨G, ei, h⟩ := bnd h
                  obtain ⟨h8, gu, gw, hw, ej, ek, em, aT, bX, en⟩ := Sl.at2 ak ei
                  obtain ⟨_, _, rfl, rfl, ⟨_, _, rfl, ⟨fL, rfl, hx⟩, ⟨_, _, rfl, rfl, ⟨_, _, rfl, rfl, ⟨_, _, rfl, rfl, ⟨_, _, rfl, rfl, ⟨_, _, rfl, rfl, ⟨_, _, rfl, rfl, ⟨_, _, rfl, rfl, ⟨_, _, rfl, rfl, ⟨_, _, rfl, ⟨_, _, rfl, rfl, ⟨_, _, rfl, rfl, ⟨_, _, rfl, ⟨_, _, rfl, rfl, ⟨fN, rfl, hy⟩⟩, ⟨_, _, rfl, rfl, ⟨fO, rfl, hz⟩⟩⟩⟩⟩, rfl⟩⟩⟩⟩⟩⟩⟩⟩⟩⟩⟩ := bX
                  replace aT : CellsAt _ _ _ [vs G.Name, fL, vi G.Kind, vi G.Temp, vB G.Mono, vi G.Start, vi G.Time, vi G.Int_, vu G.Re, vu G.Im, vi G.Hist.Scale, vu G.Hist.Zero, vi G.Hist.Pos.Offset, fN, vi G.Hist.Neg.Offset, fO, vi G.Flags] := aT
                  have bY := CAt.imm aT en
                  refine WD.gT 20 z (by kernel_rfl) z z (fun _ _ _ => Y.indexAddr ty22 ty37 z ej z ek em) z (WD.gT 21 z (by kernel_rfl) z z (fun _ _ _ => yf fo37_5 z) z (WD.gT 22 z (by kernel_rfl) z z (fun hA h9 bZ => have eo := bY.st bZ z; yl ty3 z z (eo.at_.sub 5 [vi G.Start] z)) z (WD.gT 23 z (by kernel_rfl) z z (fun _ _ _ => ym z) z (WD.gT 24 z (by kernel_rfl) z z (fun _ _ _ => ym z) z (WD.gT 25 z (by kernel_rfl) z z (fun _ _ _ => Y.sub_i z z) z ?_)))))
                  obtain ⟨H, ep, h⟩ := bnd h
                  obtain ⟨ia, gz, gB, hC, er, es, et, aU, b0, eu⟩ := Sl.at2 ak ep
                  obtain ⟨_, _, rfl, rfl, ⟨_, _, rfl, ⟨fP, rfl, hD⟩, ⟨_, _, rfl, rfl, ⟨_, _, rfl, rfl, ⟨_, _, rfl, rfl, ⟨_, _, rfl, rfl, ⟨_, _, rfl, rfl, ⟨_, _, rfl, rfl, ⟨_, _, rfl, rfl, ⟨_, _, rfl, rfl, ⟨_, _, rfl, ⟨_, _, rfl, rfl, ⟨_, _, rfl, rfl, ⟨_, _, rfl, ⟨_, _, rfl, rfl, ⟨fQ, rfl, hE⟩⟩, ⟨_, _, rfl, rfl, ⟨fR, rfl, hF⟩⟩⟩⟩⟩, rfl⟩⟩⟩⟩⟩⟩⟩⟩⟩⟩⟩ := b0
                  replace aU : CellsAt _ _ _ [vs H.Name, fP, vi H.Kind, vi H.Temp, vB H.Mono, vi H.Start, vi H.Time, vi H.Int_, vu H.Re, vu H.Im, vi H.Hist.Scale, vu H.Hist.Zero, vi H.Hist.Pos.Offset, fQ, vi H.Hist.Neg.Offset, fR, vi H.Flags] := aU
                  have b1 := CAt.imm aU eu
                  refine WD.gT 26 z (by kernel_rfl) z z (fun _ _ _ => Y.indexAddr ty22 ty37 z er z es et) z (WD.gT 27 z (by kernel_rfl) z z (fun _ _ _ => yf fo37_5 z) z (WD.gT 28 z (by kernel_rfl) z z (fun hG ib b2 => have ew := b1.st b2 z; yl ty3 z z (ew.at_.sub 5 [vi H.Start] z)) z (WD.gT 29 z (by kernel_rfl) z z (fun _ _ _ => Y.gtr_i z z) z (WD.gT 30 z (by kernel_rfl) z z (fun _ _ _ => Y.neqB z z ty4.u) z (WD.y 31 z (by kernel_rfl) (fun _ _ _ => Y.pick (b := false) z z) z (WD.ren 129 z (congrArg vB ai.symm) ?_))))))
                  exact bi (!decide (e = decide (H.Start < G.Start))) _ _ _ ⟨some1 h, z, z⟩ (.cons z (.cons z (.cons z (.cons z .nil))))
                ·rintro fT _ _ ⟨rfl, rfl, rfl⟩
                 replace h := eh
                 try dsimp only at h
                 refine (show WD _ _ _ _ _ _ _ _ [(5, n), (6, o), (8, vi m), (144, vB fT)] _ _ from ?_)
                 refine WD.done_ (by kernel_rfl) (th ?_)
                 rcases cnd h with ⟨aW, h⟩ | ⟨aW, h⟩
                 ·refine WC.condT' z aW (sq (rg (wY (ya z) z (nl (th (rt (At.inBlockR ?_)))))))
                  have h := outs1 h am
                  refine At.joinR (At.thenR (At.loopR ?_))
                  have h := outr1 h aj al
                  refine At.joinBR (At.inBlockR (At.thenR ?_))
                  obtain rfl := some1 h
                  have ex : Stp [11, 12] (Lg.O0 A) w p bh := (tr_ (su_ Q z) (tr_ (su_ S z) (tr_ (su_ W z) (tr_ (su_ I z) (tr_ (su_ P z) (tr_ (su_ J z) (tr_ (su_ j z) (tr_ (su_ l z) (tr_ (su_ c z) (tr_ (su_ d z) (tr_ (su_ q z) (su_ ah z))))))))))))
                  exact At.res (.inl z) z (.tmp z .nil) ⟨z, (se_ ex z z)⟩
                 ·refine WC.condF' z aW (sk (At.inBlock ?_))
                  exact At.join (σ := Own) p ⟨go2 h, (tr_ (su_ j z) (tr_ (su_ l z) (tr_ (su_ c z) (tr_ (su_ d z) (tr_ (su_ q z) (su_ ah z))))))⟩ (.cons z (.cons z (.cons z .nil)))
     ·rintro gC ic ⟨rfl, ey⟩
      replace h := flowK_go am
      refine (show At _ _ _ [(5, n), (6, o), (8, vi m)] _ from ?_)
      refine th (rg (wY (ym z) z (wY (Y.add_i z z) z ?_)))
      obtain ⟨fU, ez, h⟩ := lt1 h
      refine WL.yE (ya z) (congrArg vi ez.symm) z (nl ?_)
      exact At.round (fU, gC) gb (Nat.lt_succ_self _) ⟨next1 h aj, (tr_ (su_ J z) (su_ ey z))⟩ (.cons z (.cons z (.cons z .nil)))
    ·refine WC.condF' z a5 (WC.exit (At.thenX (At.loopX ?_)))
     exact At.hitB (σ := Own) bm ⟨brk1 h aj, (su_ J z)⟩ .nil
   ·rintro gE fV ⟨rfl, eA⟩
    replace h := flowK_go al
    refine (show At _ _ _ [] _ from ?_)
    refine At.inBlockHit (th (sq (rg (wY (ya z) z (nl (th (rt ?_)))))))
    obtain rfl := some1 h
    have eB : Stp [11, 12] (Lg.O0 A) w gE fV := (tr_ (su_ Q z) (tr_ (su_ S z) (tr_ (su_ W z) (tr_ (su_ I z) (tr_ (su_ P z) (su_ eA z))))))
    exact At.res (.inl z) z (.tmp z .nil) ⟨z, (se_ eB z z)⟩
end Go.Lg
