/- The walks of TodeltaSums and of what it calls, printed by gen.py. -/
import Derived.Test.YtoiklipabcecfaaDsLgConvWTodeltaSumsx1
set_option linter.unusedVariables false
namespace Go.Lg
open Go Go.Proofs
set_option maxRecDepth 100000
set_option maxHeartbeats 4000000
theorem c_ref12_Light {A : Nat → Prop} {v0_1 : Value} {v0_13 : Value} {v0_15 : Value} {a0 : api_Point} {w : World} (hs0_1 : Sl rep_api_Pair w A v0_1 a0.Attrs) (hs0_13 : Sl Rep.u w A v0_13 a0.Hist.Pos.Counts) (hs0_15 : Sl Rep.u w A v0_15 a0.Hist.Neg.Counts) {r0 : Bool} (h : ref12_Light a0 = some r0) : Rets Try.prog 17 [ag [vs a0.Name, v0_1, vi a0.Kind, vi a0.Temp, vB a0.Mono, vi a0.Start, vi a0.Time, vi a0.Int_, vu a0.Re, vu a0.Im, vi a0.Hist.Scale, vu a0.Hist.Zero, vi a0.Hist.Pos.Offset, v0_13, vi a0.Hist.Neg.Offset, v0_15, vi a0.Flags]] w (fun v w' => v = vB r0 ∧ Ext w w') := by
 unfold ref12_Light at h
 refine Rets.enter Try.func17 z z ?_
 have m : Sl rep_api_Pair w (imm (Lg.O0 A)) v0_1 a0.Attrs := (Sl.start hs0_1)
 have n : Sl Rep.u w (imm (Lg.O0 A)) v0_13 a0.Hist.Pos.Counts := (Sl.start hs0_13)
 have o : Sl Rep.u w (imm (Lg.O0 A)) v0_15 a0.Hist.Neg.Counts := (Sl.start hs0_15)
 refine (show WC _ _ _ _ [(0, ag [vs a0.Name, v0_1, vi a0.Kind, vi a0.Temp, vB a0.Mono, vi a0.Start, vi a0.Time, vi a0.Int_, vu a0.Re, vu a0.Im, vi a0.Hist.Scale, vu a0.Hist.Zero, vi a0.Hist.Pos.Offset, v0_13, vi a0.Hist.Neg.Offset, v0_15, vi a0.Flags])] _ from ?_)
 refine sq (rg ?_)
 have M := h
 obtain ⟨I, J, K, rfl⟩ := m.shape
 have h := M
 have P := h
 obtain ⟨p, q, r, rfl⟩ := n.shape
 have h := P
 have Q := h
 obtain ⟨t, C, D, rfl⟩ := o.shape
 have h := Q
 refine WL.box (O := (Lg.O0 A)) 11 [vs a0.Name, (Value.slice I J K), vi a0.Kind, vi a0.Temp, vB a0.Mono, vi a0.Start, vi a0.Time, vi a0.Int_, vu a0.Re, vu a0.Im, vi a0.Hist.Scale, vu a0.Hist.Zero, vi a0.Hist.Pos.Offset, (Value.slice p q r), vi a0.Hist.Neg.Offset, (Value.slice t C D), vi a0.Flags] z z z ?_
 intro L E S c d
 refine wY (ya z) z (nl (th (sq (rg (wY (yf fo37_0 z) z (wY (yl ty9 z z (d.cell 0 _ z)) z (wY (Y.len_s ty9 z) z (wY (Y.leq_i z z) z (wY (ym z) z ?_)))))))))
 obtain ⟨ak, h, T⟩ := bnd h
 refine WL.cut 4 (σ := (Bool × Own)) (fun x w' => x.1 = ak ∧ Stp [] E S x.2 w') (fun x => [(1, pt L 0), (11, vB x.1)]) ?_ ?_
 ·rcases cnd h with ⟨e, h⟩ | ⟨e, h⟩
  ·refine WL.ren 7 z (congrArg vB e) (ug z z (wY (yf fo37_1 z) z (ug z z (wY (yl ty35 z z (d.cell 1 _ z)) z (ug z z ?_)))))
   have U := m.i c z z
   obtain ⟨al, V, h⟩ := bnd h
   refine WL.call (vals := [(Value.slice I J K)]) kok42 z z (c_ref11_Light (A := fun _ => True) (Sl.all U) V) ?_
   rintro az aA ⟨rfl, W⟩
   obtain ⟨am, an, ao, G⟩ := adoptE E (fun k => 1) W
   refine wY (Y.pick (b := true) z z) z ?_
   exact nl (At.join (σ := (Bool × Own)) (al, am) ⟨some1 h, (su_ G z)⟩ (.cons z (.cons z .nil)))
  ·refine WL.ren 7 z (congrArg vB e) (WL.gS z z z z (WL.gS z z z z (WL.gS z z z z (wY (Y.pick (b := false) z z) z ?_))))
   exact nl (At.join (σ := (Bool × Own)) (false, E) ⟨some1 h, (sr_ _ _ _)⟩ (.cons z (.cons z .nil)))
 ·rintro ⟨ap, F⟩ X ⟨rfl, a⟩
  replace h := T
  try dsimp only at h a
  refine (show WL _ _ _ _ _ [(1, pt L 0), (11, vB ap)] _ from ?_)
  refine wY (ym z) z ?_
  obtain ⟨aq, h, Z⟩ := bnd h
  refine WL.cut 4 (σ := (Bool × Own)) (fun x w' => x.1 = aq ∧ Stp [] F X x.2 w') (fun x => [(16, vB x.1)]) ?_ ?_
  ·rcases cnd h with ⟨j, h⟩ | ⟨j, h⟩
   ·refine WL.ren 12 z (congrArg vB j) (ug z z (wY (yf fo37_10 z) z (ug z z ?_)))
    have aa := d.st a z
    refine wY (yL ty30 z z (aa.cells 10 [vi a0.Hist.Scale, vu a0.Hist.Zero, vi a0.Hist.Pos.Offset, (Value.slice p q r), vi a0.Hist.Neg.Offset, (Value.slice t C D)] z) z) z (ug z z ?_)
    have ab := n.i c z z
    have ac := ab.i a z z
    have ad := o.i c z z
    have ae := ad.i a z z
    obtain ⟨ar, af, h⟩ := bnd h
    refine WL.call (vals := [ag [vi a0.Hist.Scale, vu a0.Hist.Zero, vi a0.Hist.Pos.Offset, (Value.slice p q r), vi a0.Hist.Neg.Offset, (Value.slice t C D)]]) kok18 z z (c_ref08_Light (A := fun _ => True) (a0 := a0.Hist) (Sl.all ac) (Sl.all ae) af) ?_
    rintro aC aD ⟨rfl, ah⟩
    obtain ⟨au, av, aw, H⟩ := adoptE F (fun k => 1) ah
    refine wY (Y.pick (b := true) z z) z ?_
    exact nl (At.join (σ := (Bool × Own)) (ar, au) ⟨some1 h, (su_ H z)⟩ (.cons z .nil))
   ·refine WL.ren 12 z (congrArg vB j) (WL.gS z z z z (WL.gS z z z z (WL.gS z z z z (wY (Y.pick (b := false) z z) z ?_))))
    exact nl (At.join (σ := (Bool × Own)) (false, F) ⟨some1 h, (sr_ _ _ _)⟩ (.cons z .nil))
  ·rintro ⟨ax, ay⟩ ai ⟨rfl, l⟩
   replace h := Z
   try dsimp only at h l
   refine (show WL _ _ _ _ _ [(16, vB ax)] _ from ?_)
   refine wY (ya z) z (nl (th (rt ?_)))
   obtain rfl := some1 h
   have aj : Stp [] (Lg.O0 A) w ay ai := (tr_ (su_ c z) (tr_ (su_ a z) (su_ l z)))
   exact At.res (.inl z) z (.tmp z .nil) ⟨z, (se_ aj z z)⟩
theorem c_ref12_Some {A : Nat → Prop} {a0 : List api_Point} {v0 : Value} {a1 : Int} {w : World} (hs0 : Sl rep_api_Point w A v0 a0) {r0 : Bool} (h : ref12_Some a0 a1 = some r0) : Rets Try.prog 34 [v0, vi a1] w (fun v w' => v = vB r0 ∧ Ext w w') := by
 unfold ref12_Some at h
 refine Rets.enter Try.func34 z z ?_
 have o : Sl rep_api_Point w (imm (Lg.O0 A)) v0 a0 := (Sl.start hs0)
 refine (show WC _ _ _ _ [(0, v0), (1, vi a1)] _ from ?_)
 refine sq (rg (wY (ya z) z (nl (th (sq (sq (rg (wY (ym z) z (wY (Y.len ty22 z o) z ?_)))))))))
 refine wY (ym z) z (wY (Y.gtr_i z z) z (nl (th ?_)))
 rcases cnd h with ⟨d, h⟩ | ⟨d, h⟩
 ·refine WC.condT' z d (sq (rg (wY (ya z) z (nl (th (rt (At.thenR ?_)))))))
  obtain rfl := some1 h
  have K : Stp [] (Lg.O0 A) w (Lg.O0 A) w := (sr_ _ _ _)
  exact At.res (.inl z) z (.tmp z .nil) ⟨z, (se_ K z z)⟩
 ·refine WC.condF' z d (sk (th (sq (sq (rg (wY (ya z) z (nl (th (WC.block ?_)))))))))
  obtain ⟨D, h, p⟩ := flow1 h
  obtain ⟨E, h⟩ := loop_some h
  refine WC.joinB 0 (σ := Own) (fun x w' => D = .go () ∧ Stp [] (Lg.O0 A) w x w') (fun x => []) ?_ ?_
  ·refine WC.loop (σ := (Int × Own)) (fun x k w' => loopN k (ref12_Some_lp1 a0) x.1 = some D ∧ Stp [] (Lg.O0 A) w x.2 w') (fun x => [(0, v0), (5, vi x.1)]) (0, (Lg.O0 A)) E (.cons z (.cons z .nil)) ⟨h, (sr_ _ _ _)⟩ ?_
   rintro ⟨ae, F⟩ E an ⟨h, c⟩
   obtain ⟨af, aq, rfl, h, e⟩ := rnd1 h
   unfold ref12_Some_lp1 at h
   try dsimp only at h c
   refine (show WC _ _ _ _ [(0, v0), (5, vi ae)] _ from ?_)
   refine sq (sq (rg (wY (ym z) z (wY (ym z) z ?_))))
   have q := o.i c z z
   refine wY (Y.len ty22 z q) z (wY (Y.lss_i z z) z (nl (th ?_)))
   rcases cnd h with ⟨j, h⟩ | ⟨j, h⟩
   ·refine WC.condT' z j (sk (th (sq (WC.block (sq (rg (wY (ym z) z (wY (ym z) z ?_))))))))
    obtain ⟨a, L, h⟩ := bnd h
    obtain ⟨ar, al, am, ao, M, P, Q, l, r, S⟩ := Sl.at2 q L
    obtain ⟨_, _, rfl, rfl, ⟨_, _, rfl, ⟨G, rfl, T⟩, ⟨_, _, rfl, rfl, ⟨_, _, rfl, rfl, ⟨_, _, rfl, rfl, ⟨_, _, rfl, rfl, ⟨_, _, rfl, rfl, ⟨_, _, rfl, rfl, ⟨_, _, rfl, rfl, ⟨_, _, rfl, rfl, ⟨_, _, rfl, ⟨_, _, rfl, rfl, ⟨_, _, rfl, rfl, ⟨_, _, rfl, ⟨_, _, rfl, rfl, ⟨H, rfl, U⟩⟩, ⟨_, _, rfl, rfl, ⟨I, rfl, V⟩⟩⟩⟩⟩, rfl⟩⟩⟩⟩⟩⟩⟩⟩⟩⟩⟩ := r
    replace l : CellsAt _ _ _ [vs a.Name, G, vi a.Kind, vi a.Temp, vB a.Mono, vi a.Start, vi a.Time, vi a.Int_, vu a.Re, vu a.Im, vi a.Hist.Scale, vu a.Hist.Zero, vi a.Hist.Pos.Offset, H, vi a.Hist.Neg.Offset, I, vi a.Flags] := l
    have t := CAt.imm l S
    refine wY (Y.indexAddr ty22 ty37 z M z P Q) z (wY (yL ty37 z z t.at_ z) z ?_)
    obtain ⟨au, W, h⟩ := bnd h
    refine WL.call (vals := [ag [vs a.Name, G, vi a.Kind, vi a.Temp, vB a.Mono, vi a.Start, vi a.Time, vi a.Int_, vu a.Re, vu a.Im, vi a.Hist.Scale, vu a.Hist.Zero, vi a.Hist.Pos.Offset, H, vi a.Hist.Neg.Offset, I, vi a.Flags]]) kok17 z z (c_ref12_Light (A := fun _ => True) (a0 := a) (Sl.all T) (Sl.all U) (Sl.all V) W) ?_
    rintro ap X ⟨rfl, Z⟩
    obtain ⟨J, ah, ai, n⟩ := adoptE F (fun k => 1) Z
    refine wY (Y.not z) z (nl (th ?_))
    rcases cnd h with ⟨m, h⟩ | ⟨m, h⟩
    ·refine WC.condT' z m (sq (rg (wY (ya z) z (nl (th (rt (At.inBlockR (At.thenR (At.loopR ?_)))))))))
     have h := outr1 h e p
     refine At.joinBR (At.inBlockR (At.thenR ?_))
     obtain rfl := some1 h
     have aa : Stp [] (Lg.O0 A) w J X := (tr_ (su_ c z) (su_ n z))
     exact At.res (.inl z) z (.tmp z .nil) ⟨z, (se_ aa z z)⟩
    ·refine WC.condF' z m (sk (At.inBlock (th (rg (wY (ym z) z (wY (Y.add_i z z) z ?_))))))
     obtain ⟨aj, ab, h⟩ := lt1 h
     refine WL.yE (ya z) (congrArg vi ab.symm) z (nl ?_)
     exact At.round (aj, J) af (Nat.lt_succ_self _) ⟨next1 h e, (tr_ (su_ c z) (su_ n z))⟩ (.cons z (.cons z .nil))
   ·refine WC.condF' z j (WC.exit (At.thenX (At.loopX ?_)))
    exact At.hitB (σ := Own) F ⟨brk1 h e, (su_ c z)⟩ .nil
  ·rintro ak ac ⟨rfl, C⟩
   replace h := flowK_go p
   refine (show At _ _ _ [] _ from ?_)
   refine At.inBlockHit (th (sq (rg (wY (ya z) z (nl (th (rt ?_)))))))
   obtain rfl := some1 h
   have ad : Stp [] (Lg.O0 A) w ak ac := (su_ C z)
   exact At.res (.inl z) z (.tmp z .nil) ⟨z, (se_ ad z z)⟩
theorem c_law15_one {A : Nat → Prop} {a0 : List api_Point} {v0 : Value} {w : World} (hs0 : Sl rep_api_Point w A v0 a0) {r0 : Bool} (h : law15_one a0 = some r0) : Rets Try.prog 12 [v0] w (fun v w' => v = vB r0 ∧ Ext w w') := by
 unfold law15_one at h
 refine Rets.enter Try.func12 z z ?_
 have K : Sl rep_api_Point w (imm (Lg.O0 A)) v0 a0 := (Sl.start hs0)
 refine (show WC _ _ _ _ [(0, v0)] _ from ?_)
 refine sq (rg (wY (ya z) z (nl (th (sq (sq (rg (wY (ym z) z ?_))))))))
 obtain ⟨bR, aD, h⟩ := bnd h
 refine WL.call (vals := [v0, vi 20]) kok34 z z (c_ref12_Some (A := fun _ => True) (Sl.all K) aD) ?_
 rintro bA C ⟨rfl, aE⟩
 obtain ⟨I, a4, a5, m⟩ := adoptE (Lg.O0 A) (fun k => 1) aE
 refine wY (Y.not z) z (nl (th ?_))
 rcases cnd h with ⟨D, h⟩ | ⟨D, h⟩
 ·refine WC.condT' z D (sq (rg (wY (ya z) z (nl (th (rt (At.thenR ?_)))))))
  obtain rfl := some1 h
  have aF : Stp [] (Lg.O0 A) w I C := (su_ m z)
  exact At.res (.inl z) z (.tmp z .nil) ⟨z, (se_ aF z z)⟩
 ·refine WC.condF' z D (sk (th (sq (sq (rg (wY (ya z) z (nl (th (WC.block ?_)))))))))
  obtain ⟨aA, h, L⟩ := flow1 h
  obtain ⟨aC, h⟩ := loop_some h
  refine WC.joinB 0 (σ := Own) (fun x w' => aA = .go () ∧ Stp [] I C x w') (fun x => []) ?_ ?_
  ·refine WC.loop (σ := (Int × Own)) (fun x k w' => loopN k (law15_one_lp1 a0) x.1 = some aA ∧ Stp [] I C x.2 w') (fun x => [(0, v0), (3, vi x.1)]) (0, I) aC (.cons z (.cons z .nil)) ⟨h, (sr_ _ _ _)⟩ ?_
   rintro ⟨M, t⟩ aC bB ⟨h, j⟩
   obtain ⟨a6, bS, rfl, h, E⟩ := rnd1 h
   unfold law15_one_lp1 at h
   try dsimp only at h j
   refine (show WC _ _ _ _ [(0, v0), (3, vi M)] _ from ?_)
   refine sq (sq (rg (wY (ym z) z (wY (ym z) z ?_))))
   have aG := K.i m z z
   have P := aG.i j z z
   refine wY (Y.len ty22 z P) z (wY (Y.lss_i z z) z (nl (th ?_)))
   rcases cnd h with ⟨F, h⟩ | ⟨F, h⟩
   ·refine WC.condT' z F (sk (th (sq (WC.block (sq (WC.drawH [] [0, 1, 2, 3, 4, 5, 6, 7, 8, 9, 10, 11, 12, 13, 14, 15, 16, 17, 18, 19, 20, 21] t 22 fmix z (by kernel_rfl) ?_))))))
    intro Q n
    refine WD.y 0 z (by kernel_rfl) (fun _ _ _ => ym z) z (WD.y 1 z (by kernel_rfl) (fun _ _ _ => ym z) z ?_)
    obtain ⟨d, aH, h⟩ := bnd h
    have o := P.i n z z
    obtain ⟨bT, bj, bk, bC, aI, aJ, aK, G, aa, aL⟩ := Sl.at2 o aH
    obtain ⟨_, _, rfl, rfl, ⟨_, _, rfl, ⟨a7, rfl, bD⟩, ⟨_, _, rfl, rfl, ⟨_, _, rfl, rfl, ⟨_, _, rfl, rfl, ⟨_, _, rfl, rfl, ⟨_, _, rfl, rfl, ⟨_, _, rfl, rfl, ⟨_, _, rfl, rfl, ⟨_, _, rfl, rfl, ⟨_, _, rfl, ⟨_, _, rfl, rfl, ⟨_, _, rfl, rfl, ⟨_, _, rfl, ⟨_, _, rfl, rfl, ⟨a8, rfl, bE⟩⟩, ⟨_, _, rfl, rfl, ⟨a9, rfl, bF⟩⟩⟩⟩⟩, rfl⟩⟩⟩⟩⟩⟩⟩⟩⟩⟩⟩ := aa
    replace G : CellsAt _ _ _ [vs d.Name, a7, vi d.Kind, vi d.Temp, vB d.Mono, vi d.Start, vi d.Time, vi d.Int_, vu d.Re, vu d.Im, vi d.Hist.Scale, vu d.Hist.Zero, vi d.Hist.Pos.Offset, a8, vi d.Hist.Neg.Offset, a9, vi d.Flags] := G
    have ab := CAt.imm G aL
    refine WD.y 2 z (by kernel_rfl) (fun _ _ _ => Y.indexAddr ty22 ty37 z aI z aJ aK) z (WD.y 3 z (by kernel_rfl) (fun _ _ _ => yf fo37_2 z) z (WD.y 4 z (by kernel_rfl) (fun bG bU ac => have aM := ab.st ac z; yl ty3 z z (aM.at_.sub 2 [vi d.Kind] z)) z (WD.y 5 z (by kernel_rfl) (fun _ _ _ => ym z) z ?_)))
    obtain ⟨e, aN, h⟩ := bnd h
    obtain ⟨bW, bl, bm, bH, aO, aP, aQ, H, ad, aR⟩ := Sl.at2 o aN
    obtain ⟨_, _, rfl, rfl, ⟨_, _, rfl, ⟨ba, rfl, bI⟩, ⟨_, _, rfl, rfl, ⟨_, _, rfl, rfl, ⟨_, _, rfl, rfl, ⟨_, _, rfl, rfl, ⟨_, _, rfl, rfl, ⟨_, _, rfl, rfl, ⟨_, _, rfl, rfl, ⟨_, _, rfl, rfl, ⟨_, _, rfl, ⟨_, _, rfl, rfl, ⟨_, _, rfl, rfl, ⟨_, _, rfl, ⟨_, _, rfl, rfl, ⟨bb, rfl, bJ⟩⟩, ⟨_, _, rfl, rfl, ⟨bc, rfl, bK⟩⟩⟩⟩⟩, rfl⟩⟩⟩⟩⟩⟩⟩⟩⟩⟩⟩ := ad
    replace H : CellsAt _ _ _ [vs e.Name, ba, vi e.Kind, vi e.Temp, vB e.Mono, vi e.Start, vi e.Time, vi e.Int_, vu e.Re, vu e.Im, vi e.Hist.Scale, vu e.Hist.Zero, vi e.Hist.Pos.Offset, bb, vi e.Hist.Neg.Offset, bc, vi e.Flags] := H
    have ae := CAt.imm H aR
    refine WD.y 6 z (by kernel_rfl) (fun _ _ _ => Y.indexAddr ty22 ty37 z aO z aP aQ) z (WD.y 7 z (by kernel_rfl) (fun _ _ _ => yf fo37_2 z) z (WD.y 8 z (by kernel_rfl) (fun bn bL S => have af := ae.st S z; yl ty3 z z (af.at_.sub 2 [vi e.Kind] z)) z (WD.y 9 z (by kernel_rfl) (fun _ _ _ => Y.neq_i z z) z (WD.y 10 z (by kernel_rfl) (fun _ _ _ => ym z) z ?_))))
    obtain ⟨aS, h, ah⟩ := bnd h
    refine WD.join (σ := Bool) (f' := 0) [21, 20, 19, 18, 17, 16, 15, 14, 13, 12, 11, 10, 9, 8, 7, 6, 5, 4, 3, 2, 1, 0] (fun x O' w' => x = aS ∧ Q = w' ∧ t = O') (fun x => [(0, v0), (3, vi M), (34, vB x)]) (fun J => ?_) ?_
    ·rcases cnd h with ⟨l, h⟩ | ⟨l, h⟩
     ·refine WD.ren 23 z (congrArg vB l) (WD.gS 11 z (by kernel_rfl) z z z z (WD.gS 12 z (by kernel_rfl) z z z z (WD.gS 13 z (by kernel_rfl) z z z z (WD.gS 14 z (by kernel_rfl) z z z z (WD.gS 15 z (by kernel_rfl) z z z z (WD.gS 16 z (by kernel_rfl) z z z z (WD.gS 17 z (by kernel_rfl) z z z z (WD.gS 18 z (by kernel_rfl) z z z z (WD.gS 19 z (by kernel_rfl) z z z z ?_)))))))))
      refine WD.gS 20 z (by kernel_rfl) z z z z (WD.y 21 z (by kernel_rfl) (fun _ _ _ => Y.pick (b := true) z z) z (WD.ren 23 z (congrArg vB l.symm) ?_))
      exact J true _ _ _ ⟨some1 h, z, z⟩ (.cons z (.cons z (.cons z .nil)))
     ·refine WD.ren 23 z (congrArg vB l) (WD.gT 11 z (by kernel_rfl) z z (fun _ _ _ => ym z) z (WD.gT 12 z (by kernel_rfl) z z (fun _ _ _ => ym z) z ?_))
      obtain ⟨a, ai, h⟩ := bnd h
      obtain ⟨bM, bd, bf, bo, aj, ak, al, p, T, am⟩ := Sl.at2 o ai
      obtain ⟨_, _, rfl, rfl, ⟨_, _, rfl, ⟨aT, rfl, bp⟩, ⟨_, _, rfl, rfl, ⟨_, _, rfl, rfl, ⟨_, _, rfl, rfl, ⟨_, _, rfl, rfl, ⟨_, _, rfl, rfl, ⟨_, _, rfl, rfl, ⟨_, _, rfl, rfl, ⟨_, _, rfl, rfl, ⟨_, _, rfl, ⟨_, _, rfl, rfl, ⟨_, _, rfl, rfl, ⟨_, _, rfl, ⟨_, _, rfl, rfl, ⟨aU, rfl, bq⟩⟩, ⟨_, _, rfl, rfl, ⟨aW, rfl, br⟩⟩⟩⟩⟩, rfl⟩⟩⟩⟩⟩⟩⟩⟩⟩⟩⟩ := T
      replace p : CellsAt _ _ _ [vs a.Name, aT, vi a.Kind, vi a.Temp, vB a.Mono, vi a.Start, vi a.Time, vi a.Int_, vu a.Re, vu a.Im, vi a.Hist.Scale, vu a.Hist.Zero, vi a.Hist.Pos.Offset, aU, vi a.Hist.Neg.Offset, aW, vi a.Flags] := p
      have U := CAt.imm p am
      refine WD.gT 13 z (by kernel_rfl) z z (fun _ _ _ => Y.indexAddr ty22 ty37 z aj z ak al) z (WD.gT 14 z (by kernel_rfl) z z (fun _ _ _ => yf fo37_4 z) z (WD.gT 15 z (by kernel_rfl) z z (fun bs bO V => have an := U.st V z; yl ty4 z z (an.at_.sub 4 [vB a.Mono] z)) z (WD.gT 16 z (by kernel_rfl) z z (fun _ _ _ => ym z) z ?_)))
      obtain ⟨c, ao, h⟩ := bnd h
      obtain ⟨bP, bg, bh, bt, ap, aq, ar, q, W, au⟩ := Sl.at2 o ao
      obtain ⟨_, _, rfl, rfl, ⟨_, _, rfl, ⟨aX, rfl, bu⟩, ⟨_, _, rfl, rfl, ⟨_, _, rfl, rfl, ⟨_, _, rfl, rfl, ⟨_, _, rfl, rfl, ⟨_, _, rfl, rfl, ⟨_, _, rfl, rfl, ⟨_, _, rfl, rfl, ⟨_, _, rfl, rfl, ⟨_, _, rfl, ⟨_, _, rfl, rfl, ⟨_, _, rfl, rfl, ⟨_, _, rfl, ⟨_, _, rfl, rfl, ⟨aY, rfl, bw⟩⟩, ⟨_, _, rfl, rfl, ⟨aZ, rfl, bx⟩⟩⟩⟩⟩, rfl⟩⟩⟩⟩⟩⟩⟩⟩⟩⟩⟩ := W
      replace q : CellsAt _ _ _ [vs c.Name, aX, vi c.Kind, vi c.Temp, vB c.Mono, vi c.Start, vi c.Time, vi c.Int_, vu c.Re, vu c.Im, vi c.Hist.Scale, vu c.Hist.Zero, vi c.Hist.Pos.Offset, aY, vi c.Hist.Neg.Offset, aZ, vi c.Flags] := q
      have X := CAt.imm q au
      refine WD.gT 17 z (by kernel_rfl) z z (fun _ _ _ => Y.indexAddr ty22 ty37 z ap z aq ar) z (WD.gT 18 z (by kernel_rfl) z z (fun _ _ _ => yf fo37_4 z) z (WD.gT 19 z (by kernel_rfl) z z (fun bz bQ Z => have av := X.st Z z; yl ty4 z z (av.at_.sub 4 [vB c.Mono] z)) z (WD.gT 20 z (by kernel_rfl) z z (fun _ _ _ => Y.neqB z z ty4.u) z (WD.y 21 z (by kernel_rfl) (fun _ _ _ => Y.pick (b := false) z z) z (WD.ren 23 z (congrArg vB l.symm) ?_)))))
      exact J (!decide (a.Mono = c.Mono)) _ _ _ ⟨some1 h, z, z⟩ (.cons z (.cons z (.cons z .nil)))
    ·rintro a1 _ _ ⟨rfl, rfl, rfl⟩
     replace h := ah
     try dsimp only at h
     refine (show WD _ _ _ _ _ _ _ _ [(0, v0), (3, vi M), (34, vB a1)] _ _ from ?_)
     refine WD.done_ (by kernel_rfl) (th ?_)
     rcases cnd h with ⟨r, h⟩ | ⟨r, h⟩
     ·refine WC.condT' z r (sq (rg (wY (ya z) z (nl (th (rt (At.inBlockR (At.thenR (At.loopR ?_)))))))))
      have h := outr1 h E L
      refine At.joinBR (At.inBlockR (At.thenR ?_))
      obtain rfl := some1 h
      have aw : Stp [] (Lg.O0 A) w t Q := (tr_ (su_ m z) (tr_ (su_ j z) (su_ n z)))
      exact At.res (.inl z) z (.tmp z .nil) ⟨z, (se_ aw z z)⟩
     ·refine WC.condF' z r (sk (At.inBlock (th (rg (wY (ym z) z (wY (Y.add_i z z) z ?_))))))
      obtain ⟨a2, ax, h⟩ := lt1 h
      refine WL.yE (ya z) (congrArg vi ax.symm) z (nl ?_)
      exact At.round (a2, t) a6 (Nat.lt_succ_self _) ⟨next1 h E, (tr_ (su_ j z) (su_ n z))⟩ (.cons z (.cons z .nil))
   ·refine WC.condF' z F (WC.exit (At.thenX (At.loopX ?_)))
    exact At.hitB (σ := Own) t ⟨brk1 h E, (su_ j z)⟩ .nil
  ·rintro bi a3 ⟨rfl, ay⟩
   replace h := flowK_go L
   refine (show At _ _ _ [] _ from ?_)
   refine At.inBlockHit (th (sq (rg (wY (ya z) z (nl (th (rt ?_)))))))
   obtain rfl := some1 h
   have az : Stp [] (Lg.O0 A) w bi a3 := (tr_ (su_ m z) (su_ ay z))
   exact At.res (.inl z) z (.tmp z .nil) ⟨z, (se_ az z z)⟩
theorem c_law15_play {A : Nat → Prop} {a0 : List api_Point} {v0 : Value} {a1 : Int} {w : World} (hs0 : Sl rep_api_Point w A v0 a0) {r0 : List api_Point} {r1 : List api_Point} {r2 : api_State} (h : law15_play a0 a1 = some (r0, r1, r2)) : Rets Try.prog 13 [v0, vi a1] w (fun v w' => ∃ (u0 : Value) (u1 : Value) (dx : Value) (cO : Value), v = Value.tuple (List.toArray [u0, u1, ag [vB r2.Some, vi r2.Start, vi r2.Time, vi r2.Int_, vu r2.Re, vu r2.Im, vi r2.Hist.Scale, vu r2.Hist.Zero, vi r2.Hist.Pos.Offset, dx, vi r2.Hist.Neg.Offset, cO]]) ∧ Ext w w' ∧ Sl rep_api_Point w' (fun k => A k ∨ w.heap.size ≤ k) u0 r0 ∧ Sl rep_api_Point w' (fun k => A k ∨ w.heap.size ≤ k) u1 r1 ∧ Sl Rep.u w' (fun k => w.heap.size ≤ k) dx r2.Hist.Pos.Counts ∧ Sl Rep.u w' (fun k => w.heap.size ≤ k) cO r2.Hist.Neg.Counts) := by
 unfold law15_play at h
 refine Rets.enter Try.func13 z z ?_
 have lg : Sl rep_api_Point w (imm (Lg.O0 A)) v0 a0 := (Sl.start hs0)
 refine (show WC _ _ _ _ [(0, v0), (1, vi a1)] _ from ?_)
 refine sq (rg (wY (ya z) z (wY (ya z) z (WL.alloc (O := (Lg.O0 A)) 11 [vB false, vi 0, vi 0, vi 0, vu 0, vu 0, vi 0, vu 0, vi 0, Value.slice none 0 0, vi 0, Value.slice none 0 0] ty32 z z ?_))))
 intro bs m3 nY cP lh
 refine nl (th (sq (rg (wY (ya z) z (wY (ya z) z (nl (th (sq (rg ?_)))))))))
 refine wY (yb (vals := []) (cells := [vB false, vi 0, vi 0, vi 0, vu 0, vu 0, vi 0, vu 0, vi 0, Value.slice none 0 0, vi 0, Value.slice none 0 0]) (fe_ z) (by kernel_rfl)) z (WL.alloc (O := m3) 12 [vB false, vi 0, vi 0, vi 0, vu 0, vu 0, vi 0, vu 0, vi 0, Value.slice none 0 0, vi 0, Value.slice none 0 0] ty32 z z ?_)
 intro aM cQ nZ ck li
 refine WL.store (v := ag [vB false, vi 0, vi 0, vi 0, vu 0, vu 0, vi 0, vu 0, vi 0, Value.slice none 0 0, vi 0, Value.slice none 0 0]) (cells' := [vB false, vi 0, vi 0, vi 0, vu 0, vu 0, vi 0, vu 0, vi 0, Value.slice none 0 0, vi 0, Value.slice none 0 0]) ty32 z z li z (le_ z) z z ?_
 intro cH cl lj
 refine nl (th (sq (sq (rg (wY (ya z) z (nl (th ?_)))))))
 obtain ⟨m4, h, ll⟩ := bnd h
 refine WC.join (σ := (List api_Point × List api_Point × Bool × Int × Int × Int × UInt64 × UInt64 × Int × UInt64 × Int × List UInt64 × Int × List UInt64 × Own × Value × Value × Value × Value)) (fun x w' => (x.1, x.2.1, x.2.2.1, x.2.2.2.1, x.2.2.2.2.1, x.2.2.2.2.2.1, x.2.2.2.2.2.2.1, x.2.2.2.2.2.2.2.1, x.2.2.2.2.2.2.2.2.1, x.2.2.2.2.2.2.2.2.2.1, x.2.2.2.2.2.2.2.2.2.2.1, x.2.2.2.2.2.2.2.2.2.2.2.1, x.2.2.2.2.2.2.2.2.2.2.2.2.1, x.2.2.2.2.2.2.2.2.2.2.2.2.2.1) = m4 ∧ Stp [12, 13, 14, 15, 16, 17, 18, 19, 20, 21, 22, 24, 26, 1001, 1002, 1005, 1006, 1009, 1010, 1017, 1018] cQ cH x.2.2.2.2.2.2.2.2.2.2.2.2.2.2.1 w' ∧ OwnSl 1035 rep_api_Point 37 x.2.2.2.2.2.2.2.2.2.2.2.2.2.2.1 w' x.2.2.2.2.2.2.2.2.2.2.2.2.2.2.2.1 x.1 ∧ OwnSl 1036 rep_api_Point 37 x.2.2.2.2.2.2.2.2.2.2.2.2.2.2.1 w' x.2.2.2.2.2.2.2.2.2.2.2.2.2.2.2.2.1 x.2.1 ∧ Sl Rep.u w' (frs x.2.2.2.2.2.2.2.2.2.2.2.2.2.2.1) x.2.2.2.2.2.2.2.2.2.2.2.2.2.2.2.2.2.1 x.2.2.2.2.2.2.2.2.2.2.2.1 ∧ Sl Rep.u w' (frs x.2.2.2.2.2.2.2.2.2.2.2.2.2.2.1) x.2.2.2.2.2.2.2.2.2.2.2.2.2.2.2.2.2.2 x.2.2.2.2.2.2.2.2.2.2.2.2.2.1 ∧ Blk 12 x.2.2.2.2.2.2.2.2.2.2.2.2.2.2.1 w' aM 32 [vB x.2.2.1, vi x.2.2.2.1, vi x.2.2.2.2.1, vi x.2.2.2.2.2.1, vu x.2.2.2.2.2.2.1, vu x.2.2.2.2.2.2.2.1, vi x.2.2.2.2.2.2.2.2.1, vu x.2.2.2.2.2.2.2.2.2.1, vi x.2.2.2.2.2.2.2.2.2.2.1, x.2.2.2.2.2.2.2.2.2.2.2.2.2.2.2.2.2.1, vi x.2.2.2.2.2.2.2.2.2.2.2.2.1, x.2.2.2.2.2.2.2.2.2.2.2.2.2.2.2.2.2.2]) (fun x => [(6, pt bs 0), (7, x.2.2.2.2.2.2.2.2.2.2.2.2.2.2.2.1), (8, x.2.2.2.2.2.2.2.2.2.2.2.2.2.2.2.2.1), (9, pt aM 0)]) ?_ ?_
 ·refine WC.block ?_
  obtain ⟨dy, h, ej⟩ := flow1 h
  obtain ⟨dz, h⟩ := loop_some h
  refine WC.joinB 0 (σ := (List api_Point × List api_Point × Bool × Int × Int × Int × UInt64 × UInt64 × Int × UInt64 × Int × List UInt64 × Int × List UInt64 × Own × Value × Value × Value × Value)) (fun x w' => dy = .go (x.1, x.2.1, x.2.2.1, x.2.2.2.1, x.2.2.2.2.1, x.2.2.2.2.2.1, x.2.2.2.2.2.2.1, x.2.2.2.2.2.2.2.1, x.2.2.2.2.2.2.2.2.1, x.2.2.2.2.2.2.2.2.2.1, x.2.2.2.2.2.2.2.2.2.2.1, x.2.2.2.2.2.2.2.2.2.2.2.1, x.2.2.2.2.2.2.2.2.2.2.2.2.1, x.2.2.2.2.2.2.2.2.2.2.2.2.2.1) ∧ Stp [12, 13, 14, 15, 16, 17, 18, 19, 20, 21, 22, 24, 26, 1001, 1002, 1005, 1006, 1009, 1010] cQ cH x.2.2.2.2.2.2.2.2.2.2.2.2.2.2.1 w' ∧ OwnSl 1017 rep_api_Point 37 x.2.2.2.2.2.2.2.2.2.2.2.2.2.2.1 w' x.2.2.2.2.2.2.2.2.2.2.2.2.2.2.2.1 x.1 ∧ OwnSl 1018 rep_api_Point 37 x.2.2.2.2.2.2.2.2.2.2.2.2.2.2.1 w' x.2.2.2.2.2.2.2.2.2.2.2.2.2.2.2.2.1 x.2.1 ∧ Sl Rep.u w' (frs x.2.2.2.2.2.2.2.2.2.2.2.2.2.2.1) x.2.2.2.2.2.2.2.2.2.2.2.2.2.2.2.2.2.1 x.2.2.2.2.2.2.2.2.2.2.2.1 ∧ Sl Rep.u w' (frs x.2.2.2.2.2.2.2.2.2.2.2.2.2.2.1) x.2.2.2.2.2.2.2.2.2.2.2.2.2.2.2.2.2.2 x.2.2.2.2.2.2.2.2.2.2.2.2.2.1 ∧ Blk 12 x.2.2.2.2.2.2.2.2.2.2.2.2.2.2.1 w' aM 32 [vB x.2.2.1, vi x.2.2.2.1, vi x.2.2.2.2.1, vi x.2.2.2.2.2.1, vu x.2.2.2.2.2.2.1, vu x.2.2.2.2.2.2.2.1, vi x.2.2.2.2.2.2.2.2.1, vu x.2.2.2.2.2.2.2.2.2.1, vi x.2.2.2.2.2.2.2.2.2.2.1, x.2.2.2.2.2.2.2.2.2.2.2.2.2.2.2.2.2.1, vi x.2.2.2.2.2.2.2.2.2.2.2.2.1, x.2.2.2.2.2.2.2.2.2.2.2.2.2.2.2.2.2.2]) (fun x => [(6, pt bs 0), (7, x.2.2.2.2.2.2.2.2.2.2.2.2.2.2.2.1), (8, x.2.2.2.2.2.2.2.2.2.2.2.2.2.2.2.2.1), (9, pt aM 0)]) ?_ ?_
  ·refine WC.loop (σ := (List api_Point × List api_Point × Bool × Int × Int × Int × UInt64 × UInt64 × Int × UInt64 × Int × List UInt64 × Int × List UInt64 × Int × Own × Value × Value × Value × Value)) (fun x k w' => loopN k (law15_play_lp1 a0 a1) (x.1, x.2.1, x.2.2.1, x.2.2.2.1, x.2.2.2.2.1, x.2.2.2.2.2.1, x.2.2.2.2.2.2.1, x.2.2.2.2.2.2.2.1, x.2.2.2.2.2.2.2.2.1, x.2.2.2.2.2.2.2.2.2.1, x.2.2.2.2.2.2.2.2.2.2.1, x.2.2.2.2.2.2.2.2.2.2.2.1, x.2.2.2.2.2.2.2.2.2.2.2.2.1, x.2.2.2.2.2.2.2.2.2.2.2.2.2.1, x.2.2.2.2.2.2.2.2.2.2.2.2.2.2.1) = some dy ∧ Stp [12, 13, 14, 15, 16, 17, 18, 19, 20, 21, 22, 24, 26, 1001, 1002, 1005, 1006, 1009, 1010] cQ cH x.2.2.2.2.2.2.2.2.2.2.2.2.2.2.2.1 w' ∧ OwnSl 1009 rep_api_Point 37 x.2.2.2.2.2.2.2.2.2.2.2.2.2.2.2.1 w' x.2.2.2.2.2.2.2.2.2.2.2.2.2.2.2.2.1 x.1 ∧ OwnSl 1010 rep_api_Point 37 x.2.2.2.2.2.2.2.2.2.2.2.2.2.2.2.1 w' x.2.2.2.2.2.2.2.2.2.2.2.2.2.2.2.2.2.1 x.2.1 ∧ Sl Rep.u w' (frs x.2.2.2.2.2.2.2.2.2.2.2.2.2.2.2.1) x.2.2.2.2.2.2.2.2.2.2.2.2.2.2.2.2.2.2.1 x.2.2.2.2.2.2.2.2.2.2.2.1 ∧ Sl Rep.u w' (frs x.2.2.2.2.2.2.2.2.2.2.2.2.2.2.2.1) x.2.2.2.2.2.2.2.2.2.2.2.2.2.2.2.2.2.2.2 x.2.2.2.2.2.2.2.2.2.2.2.2.2.1 ∧ Blk 12 x.2.2.2.2.2.2.2.2.2.2.2.2.2.2.2.1 w' aM 32 [vB x.2.2.1, vi x.2.2.2.1, vi x.2.2.2.2.1, vi x.2.2.2.2.2.1, vu x.2.2.2.2.2.2.1, vu x.2.2.2.2.2.2.2.1, vi x.2.2.2.2.2.2.2.2.1, vu x.2.2.2.2.2.2.2.2.2.1, vi x.2.2.2.2.2.2.2.2.2.2.1, x.2.2.2.2.2.2.2.2.2.2.2.2.2.2.2.2.2.2.1, vi x.2.2.2.2.2.2.2.2.2.2.2.2.1, x.2.2.2.2.2.2.2.2.2.2.2.2.2.2.2.2.2.2.2]) (fun x => [(0, v0), (1, vi a1), (6, pt bs 0), (7, x.2.2.2.2.2.2.2.2.2.2.2.2.2.2.2.2.1), (8, x.2.2.2.2.2.2.2.2.2.2.2.2.2.2.2.2.2.1), (9, pt aM 0), (10, vi x.2.2.2.2.2.2.2.2.2.2.2.2.2.2.1)]) ([], [], false, 0, 0, 0, 0, 0, 0, 0, 0, [], 0, [], 0, cQ, Value.slice none 0 0, Value.slice none 0 0, Value.slice none 0 0, Value.slice none 0 0) dz (.cons z (.cons z (.cons z (.cons z (.cons z (.cons z (.cons z .nil))))))) ⟨h, (sr_ _ _ _), (OwnSl.nil 1009 rep_api_Point 37), (OwnSl.nil 1010 rep_api_Point 37), (Or.inl ⟨z, z⟩), (Or.inl ⟨z, z⟩), lj⟩ ?_
   rintro ⟨cI, cm, aN, aO, aP, aQ, aR, aS, aT, aU, aW, b4, aX, b5, ci, cj, cD, cE, b6, b7⟩ dz lm ⟨h, b8, cn, co, a7, a8, b9⟩
   obtain ⟨ln, n0, rfl, h, cR⟩ := rnd1 h
   unfold law15_play_lp1 at h
   try dsimp only at h b8 cn co a7 a8 b9
   refine (show WC _ _ _ _ [(0, v0), (1, vi a1), (6, pt bs 0), (7, cD), (8, cE), (9, pt aM 0), (10, vi ci)] _ from ?_)
   refine sq (sq (rg (wY (ym z) z (wY (ym z) z ?_))))
   have ek := lg.i cP z z
   have em := ek.i ck z z
   have en := em.i cl z z
   have cS := en.i b8 z z
   refine wY (Y.len ty22 z cS) z (wY (Y.lss_i z z) z (nl (th ?_)))
   rcases cnd h with ⟨cp, h⟩ | ⟨cp, h⟩
   ·refine WC.condT' z cp (sk (th (sq ?_)))
    obtain ⟨lo, h, eo⟩ := bnd h
    refine WC.join (σ := (List api_Point × List api_Point × Bool × Int × Int × Int × UInt64 × UInt64 × Int × UInt64 × Int × List UInt64 × Int × List UInt64 × Own × Value × Value × Value × Value)) (fun x w' => (x.1, x.2.1, x.2.2.1, x.2.2.2.1, x.2.2.2.2.1, x.2.2.2.2.2.1, x.2.2.2.2.2.2.1, x.2.2.2.2.2.2.2.1, x.2.2.2.2.2.2.2.2.1, x.2.2.2.2.2.2.2.2.2.1, x.2.2.2.2.2.2.2.2.2.2.1, x.2.2.2.2.2.2.2.2.2.2.2.1, x.2.2.2.2.2.2.2.2.2.2.2.2.1, x.2.2.2.2.2.2.2.2.2.2.2.2.2.1) = lo ∧ Stp [12, 13, 14, 15, 16, 17, 18, 19, 20, 21, 22, 1001, 1002, 1009, 1010] cj lm x.2.2.2.2.2.2.2.2.2.2.2.2.2.2.1 w' ∧ OwnSl 1005 rep_api_Point 37 x.2.2.2.2.2.2.2.2.2.2.2.2.2.2.1 w' x.2.2.2.2.2.2.2.2.2.2.2.2.2.2.2.1 x.1 ∧ OwnSl 1006 rep_api_Point 37 x.2.2.2.2.2.2.2.2.2.2.2.2.2.2.1 w' x.2.2.2.2.2.2.2.2.2.2.2.2.2.2.2.2.1 x.2.1 ∧ Sl Rep.u w' (frs x.2.2.2.2.2.2.2.2.2.2.2.2.2.2.1) x.2.2.2.2.2.2.2.2.2.2.2.2.2.2.2.2.2.1 x.2.2.2.2.2.2.2.2.2.2.2.1 ∧ Sl Rep.u w' (frs x.2.2.2.2.2.2.2.2.2.2.2.2.2.2.1) x.2.2.2.2.2.2.2.2.2.2.2.2.2.2.2.2.2.2 x.2.2.2.2.2.2.2.2.2.2.2.2.2.1 ∧ Blk 12 x.2.2.2.2.2.2.2.2.2.2.2.2.2.2.1 w' aM 32 [vB x.2.2.1, vi x.2.2.2.1, vi x.2.2.2.2.1, vi x.2.2.2.2.2.1, vu x.2.2.2.2.2.2.1, vu x.2.2.2.2.2.2.2.1, vi x.2.2.2.2.2.2.2.2.1, vu x.2.2.2.2.2.2.2.2.2.1, vi x.2.2.2.2.2.2.2.2.2.2.1, x.2.2.2.2.2.2.2.2.2.2.2.2.2.2.2.2.2.1, vi x.2.2.2.2.2.2.2.2.2.2.2.2.1, x.2.2.2.2.2.2.2.2.2.2.2.2.2.2.2.2.2.2]) (fun x => [(0, v0), (1, vi a1), (6, pt bs 0), (7, x.2.2.2.2.2.2.2.2.2.2.2.2.2.2.2.1), (8, x.2.2.2.2.2.2.2.2.2.2.2.2.2.2.2.2.1), (9, pt aM 0), (10, vi ci)]) ?_ ?_
    ·refine WC.block (sq (WC.drawH [13, 14, 15, 16, 17, 18, 19, 20, 21, 22, 1001, 1002] [0, 1, 2, 3, 4, 5, 6, 7, 8, 9, 10, 11, 12, 13, 14, 15] cj 16 fmix z (by kernel_rfl) ?_))
     intro ep e
     refine WD.y 0 z (by kernel_rfl) (fun nq n3 dA => have er := b9.st e z; have es := er.st dA z; yL ty32 z z (es.cells 0 [vB aN, vi aO, vi aP, vi aQ, vu aR, vu aS, vi aT, vu aU, vi aW, b6, vi aX, b7] z) z) z (WD.y 1 z (by kernel_rfl) (fun _ _ _ => ym z) z (WD.y 2 z (by kernel_rfl) (fun _ _ _ => ym z) z ?_))
     obtain ⟨c, et, h⟩ := bnd h
     have cT := cS.i e z z
     obtain ⟨n4, m5, m6, nr, eu, ew, ex, cq, dB, ey⟩ := Sl.at2 cT et
     obtain ⟨_, _, rfl, rfl, ⟨_, _, rfl, ⟨bS, rfl, bG⟩, ⟨_, _, rfl, rfl, ⟨_, _, rfl, rfl, ⟨_, _, rfl, rfl, ⟨_, _, rfl, rfl, ⟨_, _, rfl, rfl, ⟨_, _, rfl, rfl, ⟨_, _, rfl, rfl, ⟨_, _, rfl, rfl, ⟨_, _, rfl, ⟨_, _, rfl, rfl, ⟨_, _, rfl, rfl, ⟨_, _, rfl, ⟨_, _, rfl, rfl, ⟨bT, rfl, bH⟩⟩, ⟨_, _, rfl, rfl, ⟨bU, rfl, bI⟩⟩⟩⟩⟩, rfl⟩⟩⟩⟩⟩⟩⟩⟩⟩⟩⟩ := dB
     replace cq : CellsAt _ _ _ [vs c.Name, bS, vi c.Kind, vi c.Temp, vB c.Mono, vi c.Start, vi c.Time, vi c.Int_, vu c.Re, vu c.Im, vi c.Hist.Scale, vu c.Hist.Zero, vi c.Hist.Pos.Offset, bT, vi c.Hist.Neg.Offset, bU, vi c.Flags] := cq
     have dC := CAt.imm cq ey
     refine WD.y 3 z (by kernel_rfl) (fun _ _ _ => Y.indexAddr ty22 ty37 z eu z ew ex) z (WD.y 4 z (by kernel_rfl) (fun ns n5 dD => have ez := dC.st dD z; yL ty37 z z ez.at_ z) z (WD.y 5 z (by kernel_rfl) (fun _ _ _ => ym z) z ?_))
     obtain ⟨lp, eA, h⟩ := rhs1 h
     refine WD.join (σ := (Bool × Int × Int × Int × UInt64 × UInt64 × Int × UInt64 × Int × List UInt64 × Int × List UInt64 × List UInt8 × List api_Pair × Int × Int × Bool × Int × Int × Int × UInt64 × UInt64 × Int × UInt64 × Int × List UInt64 × Int × List UInt64 × Int × Int × Own × Nat × Nat × Value × Value × Value × Value × Value)) (f' := 3) [12, 11, 10, 9, 8, 7, 6, 5, 4, 3, 2, 1, 0] (fun x O' w' => law15_play_k2 a0 cI cm aN aO aP aQ aR aS aT aU aW b4 aX b5 ci (x.1, x.2.1, x.2.2.1, x.2.2.2.1, x.2.2.2.2.1, x.2.2.2.2.2.1, x.2.2.2.2.2.2.1, x.2.2.2.2.2.2.2.1, x.2.2.2.2.2.2.2.2.1, x.2.2.2.2.2.2.2.2.2.1, x.2.2.2.2.2.2.2.2.2.2.1, x.2.2.2.2.2.2.2.2.2.2.2.1, x.2.2.2.2.2.2.2.2.2.2.2.2.1, x.2.2.2.2.2.2.2.2.2.2.2.2.2.1, x.2.2.2.2.2.2.2.2.2.2.2.2.2.2.1, x.2.2.2.2.2.2.2.2.2.2.2.2.2.2.2.1, x.2.2.2.2.2.2.2.2.2.2.2.2.2.2.2.2.1, x.2.2.2.2.2.2.2.2.2.2.2.2.2.2.2.2.2.1, x.2.2.2.2.2.2.2.2.2.2.2.2.2.2.2.2.2.2.1, x.2.2.2.2.2.2.2.2.2.2.2.2.2.2.2.2.2.2.2.1, x.2.2.2.2.2.2.2.2.2.2.2.2.2.2.2.2.2.2.2.2.1, x.2.2.2.2.2.2.2.2.2.2.2.2.2.2.2.2.2.2.2.2.2.1, x.2.2.2.2.2.2.2.2.2.2.2.2.2.2.2.2.2.2.2.2.2.2.1, x.2.2.2.2.2.2.2.2.2.2.2.2.2.2.2.2.2.2.2.2.2.2.2.1, x.2.2.2.2.2.2.2.2.2.2.2.2.2.2.2.2.2.2.2.2.2.2.2.2.1, x.2.2.2.2.2.2.2.2.2.2.2.2.2.2.2.2.2.2.2.2.2.2.2.2.2.1, x.2.2.2.2.2.2.2.2.2.2.2.2.2.2.2.2.2.2.2.2.2.2.2.2.2.2.1, x.2.2.2.2.2.2.2.2.2.2.2.2.2.2.2.2.2.2.2.2.2.2.2.2.2.2.2.1, x.2.2.2.2.2.2.2.2.2.2.2.2.2.2.2.2.2.2.2.2.2.2.2.2.2.2.2.2.1, x.2.2.2.2.2.2.2.2.2.2.2.2.2.2.2.2.2.2.2.2.2.2.2.2.2.2.2.2.2.1) = some lp ∧ Stp [13, 14, 15, 16, 17, 18, 19, 20, 21, 22] cj ep x.2.2.2.2.2.2.2.2.2.2.2.2.2.2.2.2.2.2.2.2.2.2.2.2.2.2.2.2.2.2.1 w' ∧ Blk 1001 x.2.2.2.2.2.2.2.2.2.2.2.2.2.2.2.2.2.2.2.2.2.2.2.2.2.2.2.2.2.2.1 w' x.2.2.2.2.2.2.2.2.2.2.2.2.2.2.2.2.2.2.2.2.2.2.2.2.2.2.2.2.2.2.2.1 32 [vB false, vi 0, vi 0, vi 0, vu 0, vu 0, vi 0, vu 0, vi 0, Value.slice none 0 0, vi 0, Value.slice none 0 0] ∧ Blk 1002 x.2.2.2.2.2.2.2.2.2.2.2.2.2.2.2.2.2.2.2.2.2.2.2.2.2.2.2.2.2.2.1 w' x.2.2.2.2.2.2.2.2.2.2.2.2.2.2.2.2.2.2.2.2.2.2.2.2.2.2.2.2.2.2.2.2.1 37 [vs [], Value.slice none 0 0, vi 0, vi 0, vB false, vi 0, vi 0, vi 0, vu 0, vu 0, vi 0, vu 0, vi 0, Value.slice none 0 0, vi 0, Value.slice none 0 0, vi 0] ∧ Sl Rep.u w' (frs x.2.2.2.2.2.2.2.2.2.2.2.2.2.2.2.2.2.2.2.2.2.2.2.2.2.2.2.2.2.2.1) x.2.2.2.2.2.2.2.2.2.2.2.2.2.2.2.2.2.2.2.2.2.2.2.2.2.2.2.2.2.2.2.2.2.1 x.2.2.2.2.2.2.2.2.2.1 ∧ Sl Rep.u w' (frs x.2.2.2.2.2.2.2.2.2.2.2.2.2.2.2.2.2.2.2.2.2.2.2.2.2.2.2.2.2.2.1) x.2.2.2.2.2.2.2.2.2.2.2.2.2.2.2.2.2.2.2.2.2.2.2.2.2.2.2.2.2.2.2.2.2.2.1 x.2.2.2.2.2.2.2.2.2.2.2.1 ∧ Sl rep_api_Pair w' (frs x.2.2.2.2.2.2.2.2.2.2.2.2.2.2.2.2.2.2.2.2.2.2.2.2.2.2.2.2.2.2.1) x.2.2.2.2.2.2.2.2.2.2.2.2.2.2.2.2.2.2.2.2.2.2.2.2.2.2.2.2.2.2.2.2.2.2.2.1 x.2.2.2.2.2.2.2.2.2.2.2.2.2.1 ∧ Sl Rep.u w' (frs x.2.2.2.2.2.2.2.2.2.2.2.2.2.2.2.2.2.2.2.2.2.2.2.2.2.2.2.2.2.2.1) x.2.2.2.2.2.2.2.2.2.2.2.2.2.2.2.2.2.2.2.2.2.2.2.2.2.2.2.2.2.2.2.2.2.2.2.2.1 x.2.2.2.2.2.2.2.2.2.2.2.2.2.2.2.2.2.2.2.2.2.2.2.2.2.1 ∧ Sl Rep.u w' (frs x.2.2.2.2.2.2.2.2.2.2.2.2.2.2.2.2.2.2.2.2.2.2.2.2.2.2.2.2.2.2.1) x.2.2.2.2.2.2.2.2.2.2.2.2.2.2.2.2.2.2.2.2.2.2.2.2.2.2.2.2.2.2.2.2.2.2.2.2.2 x.2.2.2.2.2.2.2.2.2.2.2.2.2.2.2.2.2.2.2.2.2.2.2.2.2.2.2.1 ∧ x.2.2.2.2.2.2.2.2.2.2.2.2.2.2.2.2.2.2.2.2.2.2.2.2.2.2.2.2.2.2.1 = O') (fun x => [(0, v0), (1, vi a1), (6, pt bs 0), (7, cD), (8, cE), (9, pt aM 0), (10, vi ci), (11, Value.pointer (some ⟨x.2.2.2.2.2.2.2.2.2.2.2.2.2.2.2.2.2.2.2.2.2.2.2.2.2.2.2.2.2.2.2.1, 0, none⟩)), (12, Value.pointer (some ⟨x.2.2.2.2.2.2.2.2.2.2.2.2.2.2.2.2.2.2.2.2.2.2.2.2.2.2.2.2.2.2.2.2.1, 0, none⟩)), (29, ag [vB x.1, vi x.2.1, vi x.2.2.1, vi x.2.2.2.1, vu x.2.2.2.2.1, vu x.2.2.2.2.2.1, vi x.2.2.2.2.2.2.1, vu x.2.2.2.2.2.2.2.1, vi x.2.2.2.2.2.2.2.2.1, x.2.2.2.2.2.2.2.2.2.2.2.2.2.2.2.2.2.2.2.2.2.2.2.2.2.2.2.2.2.2.2.2.2.1, vi x.2.2.2.2.2.2.2.2.2.2.1, x.2.2.2.2.2.2.2.2.2.2.2.2.2.2.2.2.2.2.2.2.2.2.2.2.2.2.2.2.2.2.2.2.2.2.1]), (30, ag [vs x.2.2.2.2.2.2.2.2.2.2.2.2.1, x.2.2.2.2.2.2.2.2.2.2.2.2.2.2.2.2.2.2.2.2.2.2.2.2.2.2.2.2.2.2.2.2.2.2.2.1, vi x.2.2.2.2.2.2.2.2.2.2.2.2.2.2.1, vi x.2.2.2.2.2.2.2.2.2.2.2.2.2.2.2.1, vB x.2.2.2.2.2.2.2.2.2.2.2.2.2.2.2.2.1, vi x.2.2.2.2.2.2.2.2.2.2.2.2.2.2.2.2.2.1, vi x.2.2.2.2.2.2.2.2.2.2.2.2.2.2.2.2.2.2.1, vi x.2.2.2.2.2.2.2.2.2.2.2.2.2.2.2.2.2.2.2.1, vu x.2.2.2.2.2.2.2.2.2.2.2.2.2.2.2.2.2.2.2.2.1, vu x.2.2.2.2.2.2.2.2.2.2.2.2.2.2.2.2.2.2.2.2.2.1, vi x.2.2.2.2.2.2.2.2.2.2.2.2.2.2.2.2.2.2.2.2.2.2.1, vu x.2.2.2.2.2.2.2.2.2.2.2.2.2.2.2.2.2.2.2.2.2.2.2.1, vi x.2.2.2.2.2.2.2.2.2.2.2.2.2.2.2.2.2.2.2.2.2.2.2.2.1, x.2.2.2.2.2.2.2.2.2.2.2.2.2.2.2.2.2.2.2.2.2.2.2.2.2.2.2.2.2.2.2.2.2.2.2.2.1, vi x.2.2.2.2.2.2.2.2.2.2.2.2.2.2.2.2.2.2.2.2.2.2.2.2.2.2.1, x.2.2.2.2.2.2.2.2.2.2.2.2.2.2.2.2.2.2.2.2.2.2.2.2.2.2.2.2.2.2.2.2.2.2.2.2.2, vi x.2.2.2.2.2.2.2.2.2.2.2.2.2.2.2.2.2.2.2.2.2.2.2.2.2.2.2.2.1]), (31, vi x.2.2.2.2.2.2.2.2.2.2.2.2.2.2.2.2.2.2.2.2.2.2.2.2.2.2.2.2.2.1)]) (fun br => ?_) ?_
     ·refine WD.heavy3 6 11 12 z z z (by kernel_rfl) ?_ ?_ ?_
      ·have eB := a7.f e z
       have eC := a8.f e z
       obtain ⟨⟨m, d, dE⟩, eD, h⟩ := bnd h
       refine WL.call (vals := [ag [vB aN, vi aO, vi aP, vi aQ, vu aR, vu aS, vi aT, vu aU, vi aW, b6, vi aX, b7], ag [vs c.Name, bS, vi c.Kind, vi c.Temp, vB c.Mono, vi c.Start, vi c.Time, vi c.Int_, vu c.Re, vu c.Im, vi c.Hist.Scale, vu c.Hist.Zero, vi c.Hist.Pos.Offset, bT, vi c.Hist.Neg.Offset, bU, vi c.Flags], vi a1]) kok33 z z (c_todelta_Next (A := fun _ => True) (a0 := (api_State.mk aN aO aP aQ aR aS (api_Hist.mk aT aU (api_Side.mk aW b4) (api_Side.mk aX b5)))) (a1 := c) (Sl.all eB) (Sl.all eC) (Sl.all bG) (Sl.all bH) (Sl.all bI) eD) ?_
       rintro nt bJ ⟨cJ, cK, cL, cM, cN, rfl, eE, lq, lr, ls, lu, lv⟩
       obtain ⟨bt, mW, aY, ca⟩ := adoptE cj (fun k => 1) eE
       have cU : Sl Rep.u bJ (frs bt) cJ m.Hist.Pos.Counts := Sl.adoptF lq (fun k hk => ⟨hk, z⟩) aY
       have cV : Sl Rep.u bJ (frs bt) cK m.Hist.Neg.Counts := Sl.adoptF lr (fun k hk => ⟨hk, z⟩) aY
       have cW : Sl rep_api_Pair bJ (frs bt) cL d.Attrs := Sl.adoptF ls (fun k hk => ⟨hk, z⟩) aY
       have cX : Sl Rep.u bJ (frs bt) cM d.Hist.Pos.Counts := Sl.adoptF lu (fun k hk => ⟨hk, z⟩) aY
       have cY : Sl Rep.u bJ (frs bt) cN d.Hist.Neg.Counts := Sl.adoptF lv (fun k hk => ⟨hk, z⟩) aY
       refine nl (At.dq (su_ ca z) (WD.y 7 z (by kernel_rfl) (fun _ _ _ => ym z) z (WD.y 8 z (by kernel_rfl) (fun _ _ _ => yx z z) z (WD.y 9 z (by kernel_rfl) (fun _ _ _ => yx z z) z (WD.y 10 z (by kernel_rfl) (fun _ _ _ => yx z z) z ?_)))))
       refine WD.heavy2 11 12 z z (by kernel_rfl) ?_ ?_
       ·refine WL.alloc (O := bt) 13 [vB false, vi 0, vi 0, vi 0, vu 0, vu 0, vi 0, vu 0, vi 0, Value.slice none 0 0, vi 0, Value.slice none 0 0] ty32 z z ?_
        intro lw lx nu aH eF
        refine nl (At.dq (su_ aH z) (WD.heavy 12 z (by kernel_rfl) (WL.alloc (O := lx) 14 [vs [], Value.slice none 0 0, vi 0, vi 0, vB false, vi 0, vi 0, vi 0, vu 0, vu 0, vi 0, vu 0, vi 0, Value.slice none 0 0, vi 0, Value.slice none 0 0, vi 0] ty37 z z ?_)))
        intro ly n6 nv al eG
        refine nl (At.dq (su_ al z) ?_)
        have eH := eF.st al z
        obtain ⟨n7, am, eI⟩ := Blk.rlb 1001 rfl eH
        have eJ := eG.st am z
        obtain ⟨lA, an, eK⟩ := Blk.rlb 1002 rfl eJ
        have eL := eI.st an z
        have eM := cU.f aH z
        have eN := eM.f al z
        have eO := eN.f am z
        have eP := eO.f an z
        have eQ := cV.f aH z
        have eR := eQ.f al z
        have eS := eR.f am z
        have eT := eS.f an z
        have eU := cW.f aH z
        have eV := eU.f al z
        have eW := eV.f am z
        have eX := eW.f an z
        have eY := cX.f aH z
        have eZ := eY.f al z
        have e0 := eZ.f am z
        have e1 := e0.f an z
        have e2 := cY.f aH z
        have e5 := e2.f al z
        have e6 := e5.f am z
        have e7 := e6.f an z
        refine WD.own (tr_ (su_ am z) (su_ an z)) (WD.perm _ [12, 11, 10, 9, 8, 7, 6, 5, 4, 3, 2, 1, 0] (by kernel_rfl) ?_)
        exact br (m.Some, m.Start, m.Time, m.Int_, m.Re, m.Im, m.Hist.Scale, m.Hist.Zero, m.Hist.Pos.Offset, m.Hist.Pos.Counts, m.Hist.Neg.Offset, m.Hist.Neg.Counts, d.Name, d.Attrs, d.Kind, d.Temp, d.Mono, d.Start, d.Time, d.Int_, d.Re, d.Im, d.Hist.Scale, d.Hist.Zero, d.Hist.Pos.Offset, d.Hist.Pos.Counts, d.Hist.Neg.Offset, d.Hist.Neg.Counts, d.Flags, dE, lA, lw, ly, cJ, cK, cL, cM, cN) _ _ _ ⟨h, (tr_ (su_ ca z) (tr_ (su_ aH z) (tr_ (su_ al z) (tr_ (su_ am z) (su_ an z))))), eL, eK, eP, eT, eX, e1, e7, z⟩ (.cons z (.cons z (.cons z (.cons z (.cons z (.cons z (.cons z (.cons z (.cons z (.cons z (.cons z (.cons z .nil))))))))))))
       ·refine WL.alloc (O := bt) 15 [vs [], Value.slice none 0 0, vi 0, vi 0, vB false, vi 0, vi 0, vi 0, vu 0, vu 0, vi 0, vu 0, vi 0, Value.slice none 0 0, vi 0, Value.slice none 0 0, vi 0] ty37 z z ?_
        intro lB lC nw aI e8
        refine nl (At.dq (su_ aI z) (WD.heavy 11 z (by kernel_rfl) (WL.alloc (O := lC) 16 [vB false, vi 0, vi 0, vi 0, vu 0, vu 0, vi 0, vu 0, vi 0, Value.slice none 0 0, vi 0, Value.slice none 0 0] ty32 z z ?_)))
        intro lD n9 nx ao e9
        refine nl (At.dq (su_ ao z) ?_)
        obtain ⟨oa, ap, fa⟩ := Blk.rlb 1001 rfl e9
        have fb := e8.st ao z
        have fc := fb.st ap z
        obtain ⟨lE, aq, fd⟩ := Blk.rlb 1002 rfl fc
        have fe := fa.st aq z
        have ff := cU.f aI z
        have fg := ff.f ao z
        have fh := fg.f ap z
        have fi := fh.f aq z
        have fj := cV.f aI z
        have fk := fj.f ao z
        have fl := fk.f ap z
        have fm := fl.f aq z
        have fn := cW.f aI z
        have fo := fn.f ao z
        have fp := fo.f ap z
        have fq := fp.f aq z
        have fr := cX.f aI z
        have fs := fr.f ao z
        have ft := fs.f ap z
        have fu := ft.f aq z
        have fv := cY.f aI z
        have fw := fv.f ao z
        have fx := fw.f ap z
        have fy := fx.f aq z
        refine WD.own (tr_ (su_ ap z) (su_ aq z)) (WD.perm _ [12, 11, 10, 9, 8, 7, 6, 5, 4, 3, 2, 1, 0] (by kernel_rfl) ?_)
        exact br (m.Some, m.Start, m.Time, m.Int_, m.Re, m.Im, m.Hist.Scale, m.Hist.Zero, m.Hist.Pos.Offset, m.Hist.Pos.Counts, m.Hist.Neg.Offset, m.Hist.Neg.Counts, d.Name, d.Attrs, d.Kind, d.Temp, d.Mono, d.Start, d.Time, d.Int_, d.Re, d.Im, d.Hist.Scale, d.Hist.Zero, d.Hist.Pos.Offset, d.Hist.Pos.Counts, d.Hist.Neg.Offset, d.Hist.Neg.Counts, d.Flags, dE, lE, lD, lB, cJ, cK, cL, cM, cN) _ _ _ ⟨h, (tr_ (su_ ca z) (tr_ (su_ aI z) (tr_ (su_ ao z) (tr_ (su_ ap z) (su_ aq z))))), fe, fd, fi, fm, fq, fu, fy, z⟩ (.cons z (.cons z (.cons z (.cons z (.cons z (.cons z (.cons z (.cons z (.cons z (.cons z (.cons z (.cons z .nil))))))))))))
      ·refine WL.alloc (O := cj) 17 [vB false, vi 0, vi 0, vi 0, vu 0, vu 0, vi 0, vu 0, vi 0, Value.slice none 0 0, vi 0, Value.slice none 0 0] ty32 z z ?_
       intro dF dG ny F cZ
       refine nl (At.dq (su_ F z) ?_)
       refine WD.heavy2 6 12 z z (by kernel_rfl) ?_ ?_
       ·have fz := a7.f e z
        have fA := fz.f F z
        have fB := a8.f e z
        have fC := fB.f F z
        have fD := bG.i F z z
        have fF := bH.i F z z
        have fG := bI.i F z z
        obtain ⟨⟨ae, G, lF⟩, fH, h⟩ := bnd h
        refine WL.call (vals := [ag [vB aN, vi aO, vi aP, vi aQ, vu aR, vu aS, vi aT, vu aU, vi aW, b6, vi aX, b7], ag [vs c.Name, bS, vi c.Kind, vi c.Temp, vB c.Mono, vi c.Start, vi c.Time, vi c.Int_, vu c.Re, vu c.Im, vi c.Hist.Scale, vu c.Hist.Zero, vi c.Hist.Pos.Offset, bT, vi c.Hist.Neg.Offset, bU, vi c.Flags], vi a1]) kok33 z z (c_todelta_Next (A := fun _ => True) (a0 := (api_State.mk aN aO aP aQ aR aS (api_Hist.mk aT aU (api_Side.mk aW b4) (api_Side.mk aX b5)))) (a1 := c) (Sl.all fA) (Sl.all fC) (Sl.all fD) (Sl.all fF) (Sl.all fG) fH) ?_
        rintro nA bK ⟨dH, dI, dJ, dK, dL, rfl, fI, lG, lH, lI, lJ, lK⟩
        obtain ⟨bW, mX, aZ, cb⟩ := adoptE dG (fun k => 1) fI
        have fJ : Sl Rep.u bK (frs bW) dH ae.Hist.Pos.Counts := Sl.adoptF lG (fun k hk => ⟨hk, z⟩) aZ
        have fK : Sl Rep.u bK (frs bW) dI ae.Hist.Neg.Counts := Sl.adoptF lH (fun k hk => ⟨hk, z⟩) aZ
        have fL : Sl rep_api_Pair bK (frs bW) dJ G.Attrs := Sl.adoptF lI (fun k hk => ⟨hk, z⟩) aZ
        have fN : Sl Rep.u bK (frs bW) dK G.Hist.Pos.Counts := Sl.adoptF lJ (fun k hk => ⟨hk, z⟩) aZ
        have fO : Sl Rep.u bK (frs bW) dL G.Hist.Neg.Counts := Sl.adoptF lK (fun k hk => ⟨hk, z⟩) aZ
        refine nl (At.dq (su_ cb z) (WD.y 7 z (by kernel_rfl) (fun _ _ _ => ym z) z (WD.y 8 z (by kernel_rfl) (fun _ _ _ => yx z z) z (WD.y 9 z (by kernel_rfl) (fun _ _ _ => yx z z) z (WD.y 10 z (by kernel_rfl) (fun _ _ _ => yx z z) z (WD.heavy 12 z (by kernel_rfl) (WL.alloc (O := bW) 18 [vs [], Value.slice none 0 0, vi 0, vi 0, vB false, vi 0, vi 0, vi 0, vu 0, vu 0, vi 0, vu 0, vi 0, Value.slice none 0 0, vi 0, Value.slice none 0 0, vi 0] ty37 z z ?_)))))))
        intro lL oc nB ar fP
        refine nl (At.dq (su_ ar z) ?_)
        have fQ := cZ.st cb z
        have fR := fQ.st ar z
        obtain ⟨od, au, fT⟩ := Blk.rlb 1001 rfl fR
        have fU := fP.st au z
        obtain ⟨lM, av, fV⟩ := Blk.rlb 1002 rfl fU
        have fY := fT.st av z
        have f0 := fJ.f ar z
        have f1 := f0.f au z
        have f2 := f1.f av z
        have f3 := fK.f ar z
        have f4 := f3.f au z
        have f5 := f4.f av z
        have f6 := fL.f ar z
        have f7 := f6.f au z
        have f8 := f7.f av z
        have f9 := fN.f ar z
        have ga := f9.f au z
        have gb := ga.f av z
        have gc := fO.f ar z
        have gd := gc.f au z
        have ge := gd.f av z
        refine WD.own (tr_ (su_ au z) (su_ av z)) (WD.perm _ [12, 11, 10, 9, 8, 7, 6, 5, 4, 3, 2, 1, 0] (by kernel_rfl) ?_)
        exact br (ae.Some, ae.Start, ae.Time, ae.Int_, ae.Re, ae.Im, ae.Hist.Scale, ae.Hist.Zero, ae.Hist.Pos.Offset, ae.Hist.Pos.Counts, ae.Hist.Neg.Offset, ae.Hist.Neg.Counts, G.Name, G.Attrs, G.Kind, G.Temp, G.Mono, G.Start, G.Time, G.Int_, G.Re, G.Im, G.Hist.Scale, G.Hist.Zero, G.Hist.Pos.Offset, G.Hist.Pos.Counts, G.Hist.Neg.Offset, G.Hist.Neg.Counts, G.Flags, lF, lM, dF, lL, dH, dI, dJ, dK, dL) _ _ _ ⟨h, (tr_ (su_ F z) (tr_ (su_ cb z) (tr_ (su_ ar z) (tr_ (su_ au z) (su_ av z))))), fY, fV, f2, f5, f8, gb, ge, z⟩ (.cons z (.cons z (.cons z (.cons z (.cons z (.cons z (.cons z (.cons z (.cons z (.cons z (.cons z (.cons z .nil))))))))))))
       ·refine WL.alloc (O := dG) 19 [vs [], Value.slice none 0 0, vi 0, vi 0, vB false, vi 0, vi 0, vi 0, vu 0, vu 0, vi 0, vu 0, vi 0, Value.slice none 0 0, vi 0, Value.slice none 0 0, vi 0] ty37 z z ?_
        intro lN lO nC aw gf
        refine nl (At.dq (su_ aw z) (WD.heavy 6 z (by kernel_rfl) ?_))
        have gg := a7.f e z
        have gh := gg.f F z
        have gi := gh.f aw z
        have gj := a8.f e z
        have gk := gj.f F z
        have gl := gk.f aw z
        have gm := bG.i F z z
        have gn := gm.i aw z z
        have gp := bH.i F z z
        have gq := gp.i aw z z
        have gr := bI.i F z z
        have gs := gr.i aw z z
        obtain ⟨⟨af, H, lP⟩, gt, h⟩ := bnd h
        refine WL.call (vals := [ag [vB aN, vi aO, vi aP, vi aQ, vu aR, vu aS, vi aT, vu aU, vi aW, b6, vi aX, b7], ag [vs c.Name, bS, vi c.Kind, vi c.Temp, vB c.Mono, vi c.Start, vi c.Time, vi c.Int_, vu c.Re, vu c.Im, vi c.Hist.Scale, vu c.Hist.Zero, vi c.Hist.Pos.Offset, bT, vi c.Hist.Neg.Offset, bU, vi c.Flags], vi a1]) kok33 z z (c_todelta_Next (A := fun _ => True) (a0 := (api_State.mk aN aO aP aQ aR aS (api_Hist.mk aT aU (api_Side.mk aW b4) (api_Side.mk aX b5)))) (a1 := c) (Sl.all gi) (Sl.all gl) (Sl.all gn) (Sl.all gq) (Sl.all gs) gt) ?_
        rintro nD bL ⟨dM, dN, dO, dP, dQ, rfl, gu, lQ, lR, lS, lT, lU⟩
        obtain ⟨cc, mY, a2, bM⟩ := adoptE lO (fun k => 1) gu
        have gw : Sl Rep.u bL (frs cc) dM af.Hist.Pos.Counts := Sl.adoptF lQ (fun k hk => ⟨hk, z⟩) a2
        have gz : Sl Rep.u bL (frs cc) dN af.Hist.Neg.Counts := Sl.adoptF lR (fun k hk => ⟨hk, z⟩) a2
        have gB : Sl rep_api_Pair bL (frs cc) dO H.Attrs := Sl.adoptF lS (fun k hk => ⟨hk, z⟩) a2
        have gC : Sl Rep.u bL (frs cc) dP H.Hist.Pos.Counts := Sl.adoptF lT (fun k hk => ⟨hk, z⟩) a2
        have gE : Sl Rep.u bL (frs cc) dQ H.Hist.Neg.Counts := Sl.adoptF lU (fun k hk => ⟨hk, z⟩) a2
        refine nl (At.dq (su_ bM z) (WD.y 7 z (by kernel_rfl) (fun _ _ _ => ym z) z (WD.y 8 z (by kernel_rfl) (fun _ _ _ => yx z z) z (WD.y 9 z (by kernel_rfl) (fun _ _ _ => yx z z) z (WD.y 10 z (by kernel_rfl) (fun _ _ _ => yx z z) z ?_)))))
        have gG := cZ.st aw z
        have gH := gG.st bM z
        obtain ⟨oe, ax, gI⟩ := Blk.rlb 1001 rfl gH
        have gJ := gf.st bM z
        have gK := gJ.st ax z
        obtain ⟨lV, ay, gL⟩ := Blk.rlb 1002 rfl gK
        have gM := gI.st ay z
        have gO := gw.f ax z
        have gP := gO.f ay z
        have gQ := gz.f ax z
        have gR := gQ.f ay z
        have gU := gB.f ax z
        have gV := gU.f ay z
        have gW := gC.f ax z
        have gX := gW.f ay z
        have gY := gE.f ax z
        have gZ := gY.f ay z
        refine WD.own (tr_ (su_ ax z) (su_ ay z)) (WD.perm _ [12, 11, 10, 9, 8, 7, 6, 5, 4, 3, 2, 1, 0] (by kernel_rfl) ?_)
        exact br (af.Some, af.Start, af.Time, af.Int_, af.Re, af.Im, af.Hist.Scale, af.Hist.Zero, af.Hist.Pos.Offset, af.Hist.Pos.Counts, af.Hist.Neg.Offset, af.Hist.Neg.Counts, H.Name, H.Attrs, H.Kind, H.Temp, H.Mono, H.Start, H.Time, H.Int_, H.Re, H.Im, H.Hist.Scale, H.Hist.Zero, H.Hist.Pos.Offset, H.Hist.Pos.Counts, H.Hist.Neg.Offset, H.Hist.Neg.Counts, H.Flags, lP, lV, dF, lN, dM, dN, dO, dP, dQ) _ _ _ ⟨h, (tr_ (su_ F z) (tr_ (su_ aw z) (tr_ (su_ bM z) (tr_ (su_ ax z) (su_ ay z))))), gM, gL, gP, gR, gV, gX, gZ, z⟩ (.cons z (.cons z (.cons z (.cons z (.cons z (.cons z (.cons z (.cons z (.cons z (.cons z (.cons z (.cons z .nil))))))))))))
      ·refine WL.alloc (O := cj) 20 [vs [], Value.slice none 0 0, vi 0, vi 0, vB false, vi 0, vi 0, vi 0, vu 0, vu 0, vi 0, vu 0, vi 0, Value.slice none 0 0, vi 0, Value.slice none 0 0, vi 0] ty37 z z ?_
       intro dR dS nF I c0
       refine nl (At.dq (su_ I z) ?_)
       refine WD.heavy2 6 11 z z (by kernel_rfl) ?_ ?_
       ·have g0 := a7.f e z
        have g1 := g0.f I z
        have g2 := a8.f e z
        have g3 := g2.f I z
        have g4 := bG.i I z z
        have g5 := bH.i I z z
        have g6 := bI.i I z z
        obtain ⟨⟨ah, J, lW⟩, g7, h⟩ := bnd h
        refine WL.call (vals := [ag [vB aN, vi aO, vi aP, vi aQ, vu aR, vu aS, vi aT, vu aU, vi aW, b6, vi aX, b7], ag [vs c.Name, bS, vi c.Kind, vi c.Temp, vB c.Mono, vi c.Start, vi c.Time, vi c.Int_, vu c.Re, vu c.Im, vi c.Hist.Scale, vu c.Hist.Zero, vi c.Hist.Pos.Offset, bT, vi c.Hist.Neg.Offset, bU, vi c.Flags], vi a1]) kok33 z z (c_todelta_Next (A := fun _ => True) (a0 := (api_State.mk aN aO aP aQ aR aS (api_Hist.mk aT aU (api_Side.mk aW b4) (api_Side.mk aX b5)))) (a1 := c) (Sl.all g1) (Sl.all g3) (Sl.all g4) (Sl.all g5) (Sl.all g6) g7) ?_
        rintro nG bO ⟨dT, dU, dV, dW, dX, rfl, g8, lX, lY, lZ, l0, l1⟩
        obtain ⟨bX, mZ, a3, cd⟩ := adoptE dS (fun k => 1) g8
        have g9 : Sl Rep.u bO (frs bX) dT ah.Hist.Pos.Counts := Sl.adoptF lX (fun k hk => ⟨hk, z⟩) a3
        have ha : Sl Rep.u bO (frs bX) dU ah.Hist.Neg.Counts := Sl.adoptF lY (fun k hk => ⟨hk, z⟩) a3
        have hc : Sl rep_api_Pair bO (frs bX) dV J.Attrs := Sl.adoptF lZ (fun k hk => ⟨hk, z⟩) a3
        have hd : Sl Rep.u bO (frs bX) dW J.Hist.Pos.Counts := Sl.adoptF l0 (fun k hk => ⟨hk, z⟩) a3
        have he : Sl Rep.u bO (frs bX) dX J.Hist.Neg.Counts := Sl.adoptF l1 (fun k hk => ⟨hk, z⟩) a3
        refine nl (At.dq (su_ cd z) (WD.y 7 z (by kernel_rfl) (fun _ _ _ => ym z) z (WD.y 8 z (by kernel_rfl) (fun _ _ _ => yx z z) z (WD.y 9 z (by kernel_rfl) (fun _ _ _ => yx z z) z (WD.y 10 z (by kernel_rfl) (fun _ _ _ => yx z z) z (WD.heavy 11 z (by kernel_rfl) (WL.alloc (O := bX) 21 [vB false, vi 0, vi 0, vi 0, vu 0, vu 0, vi 0, vu 0, vi 0, Value.slice none 0 0, vi 0, Value.slice none 0 0] ty32 z z ?_)))))))
        intro l2 og nH az hf
        refine nl (At.dq (su_ az z) ?_)
        obtain ⟨oh, aA, hg⟩ := Blk.rlb 1001 rfl hf
        have hh := c0.st cd z
        have hi := hh.st az z
        have hj := hi.st aA z
        obtain ⟨l3, aC, hl⟩ := Blk.rlb 1002 rfl hj
        have hm := hg.st aC z
        have hn := g9.f az z
        have ho := hn.f aA z
        have hp := ho.f aC z
        have hq := ha.f az z
        have hr := hq.f aA z
        have hs := hr.f aC z
        have ht := hc.f az z
        have hu := ht.f aA z
        have hv := hu.f aC z
        have hw := hd.f az z
        have hx := hw.f aA z
        have hy := hx.f aC z
        have hz := he.f az z
        have hA := hz.f aA z
        have hC := hA.f aC z
        refine WD.own (tr_ (su_ aA z) (su_ aC z)) (WD.perm _ [12, 11, 10, 9, 8, 7, 6, 5, 4, 3, 2, 1, 0] (by kernel_rfl) ?_)
        exact br (ah.Some, ah.Start, ah.Time, ah.Int_, ah.Re, ah.Im, ah.Hist.Scale, ah.Hist.Zero, ah.Hist.Pos.Offset, ah.Hist.Pos.Counts, ah.Hist.Neg.Offset, ah.Hist.Neg.Counts, J.Name, J.Attrs, J.Kind, J.Temp, J.Mono, J.Start, J.Time, J.Int_, J.Re, J.Im, J.Hist.Scale, J.Hist.Zero, J.Hist.Pos.Offset, J.Hist.Pos.Counts, J.Hist.Neg.Offset, J.Hist.Neg.Counts, J.Flags, lW, l3, l2, dR, dT, dU, dV, dW, dX) _ _ _ ⟨h, (tr_ (su_ I z) (tr_ (su_ cd z) (tr_ (su_ az z) (tr_ (su_ aA z) (su_ aC z))))), hm, hl, hp, hs, hv, hy, hC, z⟩ (.cons z (.cons z (.cons z (.cons z (.cons z (.cons z (.cons z (.cons z (.cons z (.cons z (.cons z (.cons z .nil))))))))))))
       ·refine WL.alloc (O := dS) 22 [vB false, vi 0, vi 0, vi 0, vu 0, vu 0, vi 0, vu 0, vi 0, Value.slice none 0 0, vi 0, Value.slice none 0 0] ty32 z z ?_
        intro l4 l5 nI aD hD
        refine nl (At.dq (su_ aD z) (WD.heavy 6 z (by kernel_rfl) ?_))
        have hE := a7.f e z
        have hF := hE.f I z
        have hG := hF.f aD z
        have hH := a8.f e z
        have hI := hH.f I z
        have hJ := hI.f aD z
        have hK := bG.i I z z
        have hL := hK.i aD z z
        have hM := bH.i I z z
        have hN := hM.i aD z z
        have hO := bI.i I z z
        have hP := hO.i aD z z
        obtain ⟨⟨ai, K, l6⟩, hQ, h⟩ := bnd h
        refine WL.call (vals := [ag [vB aN, vi aO, vi aP, vi aQ, vu aR, vu aS, vi aT, vu aU, vi aW, b6, vi aX, b7], ag [vs c.Name, bS, vi c.Kind, vi c.Temp, vB c.Mono, vi c.Start, vi c.Time, vi c.Int_, vu c.Re, vu c.Im, vi c.Hist.Scale, vu c.Hist.Zero, vi c.Hist.Pos.Offset, bT, vi c.Hist.Neg.Offset, bU, vi c.Flags], vi a1]) kok33 z z (c_todelta_Next (A := fun _ => True) (a0 := (api_State.mk aN aO aP aQ aR aS (api_Hist.mk aT aU (api_Side.mk aW b4) (api_Side.mk aX b5)))) (a1 := c) (Sl.all hG) (Sl.all hJ) (Sl.all hL) (Sl.all hN) (Sl.all hP) hQ) ?_
        rintro nJ bP ⟨dY, dZ, d0, d1, d2, rfl, hR, l7, l8, l9, ma, mb⟩
        obtain ⟨ce, m0, a4, bQ⟩ := adoptE l5 (fun k => 1) hR
        have hS : Sl Rep.u bP (frs ce) dY ai.Hist.Pos.Counts := Sl.adoptF l7 (fun k hk => ⟨hk, z⟩) a4
        have hT : Sl Rep.u bP (frs ce) dZ ai.Hist.Neg.Counts := Sl.adoptF l8 (fun k hk => ⟨hk, z⟩) a4
        have hU : Sl rep_api_Pair bP (frs ce) d0 K.Attrs := Sl.adoptF l9 (fun k hk => ⟨hk, z⟩) a4
        have hV : Sl Rep.u bP (frs ce) d1 K.Hist.Pos.Counts := Sl.adoptF ma (fun k hk => ⟨hk, z⟩) a4
        have hW : Sl Rep.u bP (frs ce) d2 K.Hist.Neg.Counts := Sl.adoptF mb (fun k hk => ⟨hk, z⟩) a4
        refine nl (At.dq (su_ bQ z) (WD.y 7 z (by kernel_rfl) (fun _ _ _ => ym z) z (WD.y 8 z (by kernel_rfl) (fun _ _ _ => yx z z) z (WD.y 9 z (by kernel_rfl) (fun _ _ _ => yx z z) z (WD.y 10 z (by kernel_rfl) (fun _ _ _ => yx z z) z ?_)))))
        have hX := hD.st bQ z
        obtain ⟨oi, aE, hY⟩ := Blk.rlb 1001 rfl hX
        have hZ := c0.st aD z
        have h0 := hZ.st bQ z
        have h1 := h0.st aE z
        obtain ⟨mc, aF, h2⟩ := Blk.rlb 1002 rfl h1
        have h3 := hY.st aF z
        have h4 := hS.f aE z
        have h5 := h4.f aF z
        have h6 := hT.f aE z
        have h7 := h6.f aF z
        have h8 := hU.f aE z
        have h9 := h8.f aF z
        have ia := hV.f aE z
        have ib := ia.f aF z
        have ic := hW.f aE z
        have ie := ic.f aF z
        refine WD.own (tr_ (su_ aE z) (su_ aF z)) (WD.perm _ [12, 11, 10, 9, 8, 7, 6, 5, 4, 3, 2, 1, 0] (by kernel_rfl) ?_)
        exact br (ai.Some, ai.Start, ai.Time, ai.Int_, ai.Re, ai.Im, ai.Hist.Scale, ai.Hist.Zero, ai.Hist.Pos.Offset, ai.Hist.Pos.Counts, ai.Hist.Neg.Offset, ai.Hist.Neg.Counts, K.Name, K.Attrs, K.Kind, K.Temp, K.Mono, K.Start, K.Time, K.Int_, K.Re, K.Im, K.Hist.Scale, K.Hist.Zero, K.Hist.Pos.Offset, K.Hist.Pos.Counts, K.Hist.Neg.Offset, K.Hist.Neg.Counts, K.Flags, l6, mc, l4, dR, dY, dZ, d0, d1, d2) _ _ _ ⟨h, (tr_ (su_ I z) (tr_ (su_ aD z) (tr_ (su_ bQ z) (tr_ (su_ aE z) (su_ aF z))))), h3, h2, h5, h7, h9, ib, ie, z⟩ (.cons z (.cons z (.cons z (.cons z (.cons z (.cons z (.cons z (.cons z (.cons z (.cons z (.cons z (.cons z .nil))))))))))))
     ·rintro ⟨bu, bw, bx, bz, bA, bB, bC, bD, bE, md, bF, me, a6, mf, aJ, aG, ak, aj, ad, ab, Z, Q, L, p, n, mg, o, mh, M, mi, mj, ml, mm, mn, mo, mp, mq, mr⟩ _ nK ⟨h, P, c1, c2, cr, cs, c3, c4, c5, rfl⟩
      replace h := h.trans (congrArg some eA.symm)
      unfold law15_play_k2 at h
      try dsimp only at h P c1 c2 cr cs c3 c4 c5
      refine (show WD _ _ _ _ _ _ _ _ [(0, v0), (1, vi a1), (6, pt bs 0), (7, cD), (8, cE), (9, pt aM 0), (10, vi ci), (11, pt ml 0), (12, pt mm 0), (29, ag [vB bu, vi bw, vi bx, vi bz, vu bA, vu bB, vi bC, vu bD, vi bE, mn, vi bF, mo]), (30, ag [vs a6, mp, vi aJ, vi aG, vB ak, vi aj, vi ad, vi ab, vu Z, vu Q, vi L, vu p, vi n, mq, vi o, mr, vi M]), (31, vi mi)] _ _ from ?_)
      refine WD.heavy 13 z (by kernel_rfl) ?_
      have ig := h
      obtain ⟨bY, bZ, b0, rfl⟩ := cr.shape
      have h := ig
      have ih := h
      obtain ⟨b1, b2, b3, rfl⟩ := cs.shape
      have h := ih
      refine WL.store (v := ag [vB bu, vi bw, vi bx, vi bz, vu bA, vu bB, vi bC, vu bD, vi bE, (Value.slice bY bZ b0), vi bF, (Value.slice b1 b2 b3)]) (cells' := [vB bu, vi bw, vi bx, vi bz, vu bA, vu bB, vi bC, vu bD, vi bE, (Value.slice bY bZ b0), vi bF, (Value.slice b1 b2 b3)]) ty32 z z c1 z (le_ z) z z ?_
      intro nL j ii
      refine nl (At.dq (su_ j z) (WD.heavy 14 z (by kernel_rfl) ?_))
      have c6 := c3.f j z
      have ij := h
      obtain ⟨a9, ba, bb, rfl⟩ := c6.shape
      have h := ij
      have c7 := c4.f j z
      have ik := h
      obtain ⟨q, r, t, rfl⟩ := c7.shape
      have h := ik
      have c8 := c5.f j z
      have il := h
      obtain ⟨C, D, E, rfl⟩ := c8.shape
      have h := il
      have im := c2.st j z
      refine WL.store (v := ag [vs a6, (Value.slice a9 ba bb), vi aJ, vi aG, vB ak, vi aj, vi ad, vi ab, vu Z, vu Q, vi L, vu p, vi n, (Value.slice q r t), vi o, (Value.slice C D E), vi M]) (cells' := [vs a6, (Value.slice a9 ba bb), vi aJ, vi aG, vB ak, vi aj, vi ad, vi ab, vu Z, vu Q, vi L, vu p, vi n, (Value.slice q r t), vi o, (Value.slice C D E), vi M]) ty37 z z im z (le_ z) z z ?_
      intro nN l io
      refine nl (At.dq (su_ l z) (WD.y 15 z (by kernel_rfl) (fun _ _ _ => ya z) z (WD.done_ (by kernel_rfl) (th (sq (rg (wY (ym z) z (wY (Y.eql_i z z) z (nl ?_)))))))))
      refine th ?_
      rcases cnd h with ⟨ct, h⟩ | ⟨ct, h⟩
      ·refine WC.condT' z ct (sq (rg (wY (ym z) z (wY (ym z) z (wY (ym z) z ?_)))))
       obtain ⟨a, ip, h⟩ := bnd h
       have iq := cT.i P z z
       have ir := iq.i j z z
       have it := ir.i l z z
       obtain ⟨oj, m7, m8, nO, iu, iv, iw, cu, d3, ix⟩ := Sl.at2 it ip
       obtain ⟨_, _, rfl, rfl, ⟨_, _, rfl, ⟨ms, rfl, c9⟩, ⟨_, _, rfl, rfl, ⟨_, _, rfl, rfl, ⟨_, _, rfl, rfl, ⟨_, _, rfl, rfl, ⟨_, _, rfl, rfl, ⟨_, _, rfl, rfl, ⟨_, _, rfl, rfl, ⟨_, _, rfl, rfl, ⟨_, _, rfl, ⟨_, _, rfl, rfl, ⟨_, _, rfl, rfl, ⟨_, _, rfl, ⟨_, _, rfl, rfl, ⟨mt, rfl, da⟩⟩, ⟨_, _, rfl, rfl, ⟨mu, rfl, db⟩⟩⟩⟩⟩, rfl⟩⟩⟩⟩⟩⟩⟩⟩⟩⟩⟩ := d3
       replace cu : CellsAt _ _ _ [vs a.Name, ms, vi a.Kind, vi a.Temp, vB a.Mono, vi a.Start, vi a.Time, vi a.Int_, vu a.Re, vu a.Im, vi a.Hist.Scale, vu a.Hist.Zero, vi a.Hist.Pos.Offset, mt, vi a.Hist.Neg.Offset, mu, vi a.Flags] := cu
       have d4 := CAt.imm cu ix
       refine wY (Y.indexAddr ty22 ty37 z iu z iv iw) z (wY (yL ty37 z z d4.at_ z) z ?_)
       have iy := h
       obtain ⟨cf, cg, ch, rfl⟩ := c9.shape
       have h := iy
       have iz := h
       obtain ⟨S, T, U, rfl⟩ := da.shape
       have h := iz
       have iA := h
       obtain ⟨V, W, X, rfl⟩ := db.shape
       have h := iA
       refine WL.buildSlice (O := mj) (R := rep_api_Point) (vals := [(0, ag [vs a.Name, (Value.slice cf cg ch), vi a.Kind, vi a.Temp, vB a.Mono, vi a.Start, vi a.Time, vi a.Int_, vu a.Re, vu a.Im, vi a.Hist.Scale, vu a.Hist.Zero, vi a.Hist.Pos.Offset, (Value.slice S T U), vi a.Hist.Neg.Offset, (Value.slice V W X), vi a.Flags])]) 23 [vs a.Name, (Value.slice cf cg ch), vi a.Kind, vi a.Temp, vB a.Mono, vi a.Start, vi a.Time, vi a.Int_, vu a.Re, vu a.Im, vi a.Hist.Scale, vu a.Hist.Zero, vi a.Hist.Pos.Offset, (Value.slice S T U), vi a.Hist.Neg.Offset, (Value.slice V W X), vi a.Flags] (xs := [a]) (by decide) ty22 ty37 (by decide) (by decide) (fe_ z) (by kernel_rfl) z ⟨[vs a.Name, (Value.slice cf cg ch), vi a.Kind, vi a.Temp, vB a.Mono, vi a.Start, vi a.Time, vi a.Int_, vu a.Re, vu a.Im, vi a.Hist.Scale, vu a.Hist.Zero, vi a.Hist.Pos.Offset, (Value.slice S T U), vi a.Hist.Neg.Offset, (Value.slice V W X), vi a.Flags], [], z, ⟨[vs a.Name], [(Value.slice cf cg ch), vi a.Kind, vi a.Temp, vB a.Mono, vi a.Start, vi a.Time, vi a.Int_, vu a.Re, vu a.Im, vi a.Hist.Scale, vu a.Hist.Zero, vi a.Hist.Pos.Offset, (Value.slice S T U), vi a.Hist.Neg.Offset, (Value.slice V W X), vi a.Flags], z, z, ⟨[(Value.slice cf cg ch)], [vi a.Kind, vi a.Temp, vB a.Mono, vi a.Start, vi a.Time, vi a.Int_, vu a.Re, vu a.Im, vi a.Hist.Scale, vu a.Hist.Zero, vi a.Hist.Pos.Offset, (Value.slice S T U), vi a.Hist.Neg.Offset, (Value.slice V W X), vi a.Flags], z, ⟨_, z, c9⟩, ⟨[vi a.Kind], [vi a.Temp, vB a.Mono, vi a.Start, vi a.Time, vi a.Int_, vu a.Re, vu a.Im, vi a.Hist.Scale, vu a.Hist.Zero, vi a.Hist.Pos.Offset, (Value.slice S T U), vi a.Hist.Neg.Offset, (Value.slice V W X), vi a.Flags], z, z, ⟨[vi a.Temp], [vB a.Mono, vi a.Start, vi a.Time, vi a.Int_, vu a.Re, vu a.Im, vi a.Hist.Scale, vu a.Hist.Zero, vi a.Hist.Pos.Offset, (Value.slice S T U), vi a.Hist.Neg.Offset, (Value.slice V W X), vi a.Flags], z, z, ⟨[vB a.Mono], [vi a.Start, vi a.Time, vi a.Int_, vu a.Re, vu a.Im, vi a.Hist.Scale, vu a.Hist.Zero, vi a.Hist.Pos.Offset, (Value.slice S T U), vi a.Hist.Neg.Offset, (Value.slice V W X), vi a.Flags], z, z, ⟨[vi a.Start], [vi a.Time, vi a.Int_, vu a.Re, vu a.Im, vi a.Hist.Scale, vu a.Hist.Zero, vi a.Hist.Pos.Offset, (Value.slice S T U), vi a.Hist.Neg.Offset, (Value.slice V W X), vi a.Flags], z, z, ⟨[vi a.Time], [vi a.Int_, vu a.Re, vu a.Im, vi a.Hist.Scale, vu a.Hist.Zero, vi a.Hist.Pos.Offset, (Value.slice S T U), vi a.Hist.Neg.Offset, (Value.slice V W X), vi a.Flags], z, z, ⟨[vi a.Int_], [vu a.Re, vu a.Im, vi a.Hist.Scale, vu a.Hist.Zero, vi a.Hist.Pos.Offset, (Value.slice S T U), vi a.Hist.Neg.Offset, (Value.slice V W X), vi a.Flags], z, z, ⟨[vu a.Re], [vu a.Im, vi a.Hist.Scale, vu a.Hist.Zero, vi a.Hist.Pos.Offset, (Value.slice S T U), vi a.Hist.Neg.Offset, (Value.slice V W X), vi a.Flags], z, z, ⟨[vu a.Im], [vi a.Hist.Scale, vu a.Hist.Zero, vi a.Hist.Pos.Offset, (Value.slice S T U), vi a.Hist.Neg.Offset, (Value.slice V W X), vi a.Flags], z, z, ⟨[vi a.Hist.Scale, vu a.Hist.Zero, vi a.Hist.Pos.Offset, (Value.slice S T U), vi a.Hist.Neg.Offset, (Value.slice V W X)], [vi a.Flags], z, ⟨[vi a.Hist.Scale], [vu a.Hist.Zero, vi a.Hist.Pos.Offset, (Value.slice S T U), vi a.Hist.Neg.Offset, (Value.slice V W X)], z, z, ⟨[vu a.Hist.Zero], [vi a.Hist.Pos.Offset, (Value.slice S T U), vi a.Hist.Neg.Offset, (Value.slice V W X)], z, z, ⟨[vi a.Hist.Pos.Offset, (Value.slice S T U)], [vi a.Hist.Neg.Offset, (Value.slice V W X)], z, ⟨[vi a.Hist.Pos.Offset], [(Value.slice S T U)], z, z, ⟨_, z, da⟩⟩, ⟨[vi a.Hist.Neg.Offset], [(Value.slice V W X)], z, z, ⟨_, z, db⟩⟩⟩⟩⟩, z⟩⟩⟩⟩⟩⟩⟩⟩⟩⟩⟩, z⟩ z ?_
       intro ol om nP aa iB
       obtain ⟨iC, d5, h⟩ := bnd h
       have iD := cn.st e z z z
       have iE := iD.st P z z z
       have iF := iE.st j z z z
       have iG := iF.st l z z z
       have iH := iG.st aa z z z
       refine WL.append (by decide) ty22 ty37 z (by decide) z z iH iB.src d5 z ?_
       intro mv mw nQ ac iI
       refine wY (ya z) z (nl (th (sq (rg (wY (ym z) z ?_)))))
       have iJ := io.st aa z
       have iK := iJ.st ac z
       refine wY (yL ty37 z z (iK.cells 0 [vs a6, (Value.slice a9 ba bb), vi aJ, vi aG, vB ak, vi aj, vi ad, vi ab, vu Z, vu Q, vi L, vu p, vi n, (Value.slice q r t), vi o, (Value.slice C D E), vi M] z) z) z ?_
       have iL := c6.f l z
       have iM := iL.f aa z
       have iN := iM.f ac z
       have iO := c7.f l z
       have iP := iO.f aa z
       have iQ := iP.f ac z
       have iR := c8.f l z
       have iS := iR.f aa z
       have iT := iS.f ac z
       refine WL.buildSlice (O := mw) (R := rep_api_Point) (vals := [(0, ag [vs a6, (Value.slice a9 ba bb), vi aJ, vi aG, vB ak, vi aj, vi ad, vi ab, vu Z, vu Q, vi L, vu p, vi n, (Value.slice q r t), vi o, (Value.slice C D E), vi M])]) 24 [vs a6, (Value.slice a9 ba bb), vi aJ, vi aG, vB ak, vi aj, vi ad, vi ab, vu Z, vu Q, vi L, vu p, vi n, (Value.slice q r t), vi o, (Value.slice C D E), vi M] (xs := [(api_Point.mk a6 mf aJ aG ak aj ad ab Z Q (api_Hist.mk L p (api_Side.mk n mg) (api_Side.mk o mh)) M)]) (by decide) ty22 ty37 (by decide) (by decide) (fe_ z) (by kernel_rfl) z ⟨[vs a6, (Value.slice a9 ba bb), vi aJ, vi aG, vB ak, vi aj, vi ad, vi ab, vu Z, vu Q, vi L, vu p, vi n, (Value.slice q r t), vi o, (Value.slice C D E), vi M], [], z, ⟨[vs a6], [(Value.slice a9 ba bb), vi aJ, vi aG, vB ak, vi aj, vi ad, vi ab, vu Z, vu Q, vi L, vu p, vi n, (Value.slice q r t), vi o, (Value.slice C D E), vi M], z, z, ⟨[(Value.slice a9 ba bb)], [vi aJ, vi aG, vB ak, vi aj, vi ad, vi ab, vu Z, vu Q, vi L, vu p, vi n, (Value.slice q r t), vi o, (Value.slice C D E), vi M], z, ⟨_, z, (Sl.mono iN frs_imm)⟩, ⟨[vi aJ], [vi aG, vB ak, vi aj, vi ad, vi ab, vu Z, vu Q, vi L, vu p, vi n, (Value.slice q r t), vi o, (Value.slice C D E), vi M], z, z, ⟨[vi aG], [vB ak, vi aj, vi ad, vi ab, vu Z, vu Q, vi L, vu p, vi n, (Value.slice q r t), vi o, (Value.slice C D E), vi M], z, z, ⟨[vB ak], [vi aj, vi ad, vi ab, vu Z, vu Q, vi L, vu p, vi n, (Value.slice q r t), vi o, (Value.slice C D E), vi M], z, z, ⟨[vi aj], [vi ad, vi ab, vu Z, vu Q, vi L, vu p, vi n, (Value.slice q r t), vi o, (Value.slice C D E), vi M], z, z, ⟨[vi ad], [vi ab, vu Z, vu Q, vi L, vu p, vi n, (Value.slice q r t), vi o, (Value.slice C D E), vi M], z, z, ⟨[vi ab], [vu Z, vu Q, vi L, vu p, vi n, (Value.slice q r t), vi o, (Value.slice C D E), vi M], z, z, ⟨[vu Z], [vu Q, vi L, vu p, vi n, (Value.slice q r t), vi o, (Value.slice C D E), vi M], z, z, ⟨[vu Q], [vi L, vu p, vi n, (Value.slice q r t), vi o, (Value.slice C D E), vi M], z, z, ⟨[vi L, vu p, vi n, (Value.slice q r t), vi o, (Value.slice C D E)], [vi M], z, ⟨[vi L], [vu p, vi n, (Value.slice q r t), vi o, (Value.slice C D E)], z, z, ⟨[vu p], [vi n, (Value.slice q r t), vi o, (Value.slice C D E)], z, z, ⟨[vi n, (Value.slice q r t)], [vi o, (Value.slice C D E)], z, ⟨[vi n], [(Value.slice q r t)], z, z, ⟨_, z, (Sl.mono iQ frs_imm)⟩⟩, ⟨[vi o], [(Value.slice C D E)], z, z, ⟨_, z, (Sl.mono iT frs_imm)⟩⟩⟩⟩⟩, z⟩⟩⟩⟩⟩⟩⟩⟩⟩⟩⟩, z⟩ z ?_
       intro oo op nR aK iU
       obtain ⟨iV, d6, h⟩ := bnd h
       have iW := co.st e z z z
       have iX := iW.st P z z z
       have iY := iX.st j z z z
       have iZ := iY.st l z z z
       have i0 := iZ.st aa z z z
       have i1 := i0.st ac z z z
       have i2 := i1.st aK z z z
       refine WL.append (by decide) ty22 ty37 z (by decide) z z i2 iU.src d6 z ?_
       intro mx oq nS a5 i3
       refine wY (ya z) z (nl (th (rg ?_)))
       have i4 := ii.st l z
       have i5 := i4.st aa z
       have i6 := i5.st ac z
       have i7 := i6.st aK z
       have i8 := i7.st a5 z
       refine wY (yL ty32 z z (i8.cells 0 [vB bu, vi bw, vi bx, vi bz, vu bA, vu bB, vi bC, vu bD, vi bE, (Value.slice bY bZ b0), vi bF, (Value.slice b1 b2 b3)] z) z) z ?_
       have i9 := b9.st e z
       have ja := i9.st P z
       have jb := ja.st j z
       have jc := jb.st l z
       have jd := jc.st aa z
       have je := jd.st ac z
       have jf := je.st aK z
       have jg := jf.st a5 z
       refine WL.store (v := ag [vB bu, vi bw, vi bx, vi bz, vu bA, vu bB, vi bC, vu bD, vi bE, (Value.slice bY bZ b0), vi bF, (Value.slice b1 b2 b3)]) (cells' := [vB bu, vi bw, vi bx, vi bz, vu bA, vu bB, vi bC, vu bD, vi bE, (Value.slice bY bZ b0), vi bF, (Value.slice b1 b2 b3)]) ty32 z z jg z (le_ z) z z ?_
       intro nT bc jh
       refine nl (At.inBlock ?_)
       have ji := iI.st aK z z z
       have jj := ji.st a5 z z z
       have jk := jj.st bc z z z
       obtain ⟨os, bd, jl⟩ := OwnSl.rlb 1005 rfl jk
       have jm := i3.st bc z z z
       have jn := jm.st bd z z z
       obtain ⟨my, bf, jo⟩ := OwnSl.rlb 1006 rfl jn
       have jp := jl.st bf z z z
       have jq := cr.f j z
       have jr := jq.f l z
       have js := jr.f aa z
       have jt := js.f ac z
       have ju := jt.f aK z
       have jv := ju.f a5 z
       have jw := jv.f bc z
       have jx := jw.f bd z
       have jy := jx.f bf z
       have jz := cs.f j z
       have jA := jz.f l z
       have jB := jA.f aa z
       have jC := jB.f ac z
       have jD := jC.f aK z
       have jE := jD.f a5 z
       have jF := jE.f bc z
       have jG := jF.f bd z
       have jH := jG.f bf z
       have jI := jh.st bd z
       have jJ := jI.st bf z
       exact At.join (σ := (List api_Point × List api_Point × Bool × Int × Int × Int × UInt64 × UInt64 × Int × UInt64 × Int × List UInt64 × Int × List UInt64 × Own × Value × Value × Value × Value)) (iC, iV, bu, bw, bx, bz, bA, bB, bC, bD, bE, md, bF, me, my, mv, mx, (Value.slice bY bZ b0), (Value.slice b1 b2 b3)) ⟨some1 h, (tr_ (su_ e z) (tr_ (su_ P z) (tr_ (su_ j z) (tr_ (su_ l z) (tr_ (su_ aa z) (tr_ (su_ ac z) (tr_ (su_ aK z) (tr_ (su_ a5 z) (tr_ (su_ bc z) (tr_ (su_ bd z) (su_ bf z))))))))))), jp, jo, jy, jH, jJ⟩ (.cons z (.cons z (.cons z (.cons z (.cons z (.cons z (.cons z .nil)))))))
      ·refine WC.condF' z ct (sk (At.inBlock ?_))
       have jK := cn.st e z z z
       have jL := jK.st P z z z
       have jM := jL.st j z z z
       have jN := jM.st l z z z
       obtain ⟨ot, bg, jO⟩ := OwnSl.rlb 1005 rfl jN
       have jP := co.st e z z z
       have jQ := jP.st P z z z
       have jR := jQ.st j z z z
       have jS := jR.st l z z z
       have jT := jS.st bg z z z
       obtain ⟨mz, bh, jU⟩ := OwnSl.rlb 1006 rfl jT
       have jV := jO.st bh z z z
       have jW := a7.f e z
       have jX := jW.f P z
       have jY := jX.f j z
       have jZ := jY.f l z
       have j0 := jZ.f bg z
       have j1 := j0.f bh z
       have j2 := a8.f e z
       have j3 := j2.f P z
       have j4 := j3.f j z
       have j5 := j4.f l z
       have j6 := j5.f bg z
       have j7 := j6.f bh z
       have j8 := b9.st e z
       have j9 := j8.st P z
       have ka := j9.st j z
       have kb := ka.st l z
       have kc := kb.st bg z
       have kd := kc.st bh z
       exact At.join (σ := (List api_Point × List api_Point × Bool × Int × Int × Int × UInt64 × UInt64 × Int × UInt64 × Int × List UInt64 × Int × List UInt64 × Own × Value × Value × Value × Value)) (cI, cm, aN, aO, aP, aQ, aR, aS, aT, aU, aW, b4, aX, b5, mz, cD, cE, b6, b7) ⟨some1 h, (tr_ (su_ e z) (tr_ (su_ P z) (tr_ (su_ j z) (tr_ (su_ l z) (tr_ (su_ bg z) (su_ bh z)))))), jV, jU, j1, j7, kd⟩ (.cons z (.cons z (.cons z (.cons z (.cons z (.cons z (.cons z .nil)))))))
    ·rintro ⟨ke, d7, mA, mB, mC, mD, mE, mF, mG, mH, mI, mJ, mK, mL, ou, d8, d9, mM, mN⟩ nU ⟨rfl, cF, dc, dd, de, df, dg⟩
     replace h := eo
     try dsimp only at h cF dc dd de df dg
     refine (show At _ _ _ [(0, v0), (1, vi a1), (6, pt bs 0), (7, d8), (8, d9), (9, pt aM 0), (10, vi ci)] _ from ?_)
     refine th (rg (wY (ym z) z (wY (Y.add_i z z) z ?_)))
     obtain ⟨mO, kf, h⟩ := lt1 h
     refine WL.yE (ya z) (congrArg vi kf.symm) z (nl ?_)
     obtain ⟨ov, bi, kg⟩ := OwnSl.rlb 1009 rfl dc
     have kh := dd.st bi z z z
     obtain ⟨mP, bj, ki⟩ := OwnSl.rlb 1010 rfl kh
     have kj := kg.st bj z z z
     have kk := de.f bi z
     have km := kk.f bj z
     have kn := df.f bi z
     have ko := kn.f bj z
     have kp := dg.st bi z
     have kq := kp.st bj z
     exact At.round (ke, d7, mA, mB, mC, mD, mE, mF, mG, mH, mI, mJ, mK, mL, mO, mP, d8, d9, mM, mN) ln (Nat.lt_succ_self _) ⟨next1 h cR, (tr_ (su_ b8 z) (tr_ (su_ cF z) (tr_ (su_ bi z) (su_ bj z)))), kj, ki, km, ko, kq⟩ (.cons z (.cons z (.cons z (.cons z (.cons z (.cons z (.cons z .nil)))))))
   ·refine WC.condF' z cp (WC.exit (At.thenX (At.loopX ?_)))
    obtain ⟨ow, bk, kr⟩ := OwnSl.rlb 1017 rfl cn
    have ks := co.st bk z z z
    obtain ⟨mQ, bl, kt⟩ := OwnSl.rlb 1018 rfl ks
    have ku := kr.st bl z z z
    have kv := a7.f bk z
    have kw := kv.f bl z
    have kx := a8.f bk z
    have ky := kx.f bl z
    have kz := b9.st bk z
    have kA := kz.st bl z
    exact At.hitB (σ := (List api_Point × List api_Point × Bool × Int × Int × Int × UInt64 × UInt64 × Int × UInt64 × Int × List UInt64 × Int × List UInt64 × Own × Value × Value × Value × Value)) (cI, cm, aN, aO, aP, aQ, aR, aS, aT, aU, aW, b4, aX, b5, mQ, cD, cE, b6, b7) ⟨brk1 h cR, (tr_ (su_ b8 z) (tr_ (su_ bk z) (su_ bl z))), ku, kt, kw, ky, kA⟩ (.cons z (.cons z (.cons z (.cons z .nil))))
  ·rintro ⟨mR, kB, m9, na, nb, nc, nd, ne, nf, ng, nh, ni, nj, mS, ox, lb, lc, nk, mT⟩ nV ⟨rfl, cG, ea, eb, ec, dh, ed⟩
   replace h := flowK_go ej
   try dsimp only at h cG ea eb ec dh ed
   refine (show At _ _ _ [(6, pt bs 0), (7, lb), (8, lc), (9, pt aM 0)] _ from ?_)
   refine At.inBlockHit ?_
   obtain ⟨oy, bm, kC⟩ := OwnSl.rlb 1035 rfl ea
   have kD := eb.st bm z z z
   obtain ⟨mU, bn, kE⟩ := OwnSl.rlb 1036 rfl kD
   have kF := kC.st bn z z z
   have kG := ec.f bm z
   have kH := kG.f bn z
   have kI := dh.f bm z
   have kJ := kI.f bn z
   have kK := ed.st bm z
   have kL := kK.st bn z
   exact At.join (σ := (List api_Point × List api_Point × Bool × Int × Int × Int × UInt64 × UInt64 × Int × UInt64 × Int × List UInt64 × Int × List UInt64 × Own × Value × Value × Value × Value)) (mR, kB, m9, na, nb, nc, nd, ne, nf, ng, nh, ni, nj, mS, mU, lb, lc, nk, mT) ⟨some1 h, (tr_ (su_ cG z) (tr_ (su_ bm z) (su_ bn z))), kF, kE, kH, kJ, kL⟩ (.cons z (.cons z (.cons z (.cons z .nil))))
 ·rintro ⟨oz, nW, di, dj, dk, dl, dm, dn, dp, dr, ds, oC, dt, oD, nm, ld, lf, nn, np⟩ oA ⟨rfl, cv, ee, ef, eg, eh, ei⟩
  replace h := ll
  try dsimp only at h cv ee ef eg eh ei
  refine (show At _ _ _ [(6, pt bs 0), (7, ld), (8, lf), (9, pt aM 0)] _ from ?_)
  refine th (sq (WC.draw 5 nm fmix (by kernel_rfl) ?_))
  intro nX aL
  refine WS.y (ym z) z (WS.y (ym z) z ?_)
  have kM := ei.st aL z
  refine WS.y (yL ty32 z z (kM.cells 0 [vB di, vi dj, vi dk, vi dl, vu dm, vu dn, vi dp, vu dr, vi ds, nn, vi dt, np] z) z) z (WS.y (ya z) z (WS.y (ya z) z (WS.tail ?_)))
  have du := eg.f aL z
  have kN := h
  obtain ⟨cw, cx, cy, rfl⟩ := du.shape
  have h := kN
  have dw := eh.f aL z
  have kO := h
  obtain ⟨cz, cA, cC, rfl⟩ := dw.shape
  have h := kO
  have kP := lh.st ck z
  have kQ := kP.st cl z
  have kR := kQ.st cv z
  have kS := kR.st aL z
  refine WL.store (v := ag [vB di, vi dj, vi dk, vi dl, vu dm, vu dn, vi dp, vu dr, vi ds, (Value.slice cw cx cy), vi dt, (Value.slice cz cA cC)]) (cells' := [vB di, vi dj, vi dk, vi dl, vu dm, vu dn, vi dp, vu dr, vi ds, (Value.slice cw cx cy), vi dt, (Value.slice cz cA cC)]) ty32 z z kS z (le_ z) z z ?_
  intro kT bo kU
  refine nl (th (rt ?_))
  obtain ⟨rfl, rfl, rfl⟩ := tup3 h
  have kV := ee.st aL z z z
  have kW := kV.st bo z z z
  obtain ⟨oB, bp, kX⟩ := OwnSl.give rfl kW
  have kY := ef.st aL z z z
  have kZ := kY.st bo z z z
  have k0 := kZ.st bp z z z
  obtain ⟨mV, bq, k1⟩ := OwnSl.give rfl k0
  have bR : Stp [11, 12, 13, 14, 15, 16, 17, 18, 19, 20, 21, 22, 24, 26, 1001, 1002, 1005, 1006, 1009, 1010, 1017, 1018, 1035, 1036] (Lg.O0 A) w mV kT := (tr_ (su_ cP z) (tr_ (su_ ck z) (tr_ (su_ cl z) (tr_ (su_ cv z) (tr_ (su_ aL z) (tr_ (su_ bo z) (tr_ (su_ bp z) (su_ bq z))))))))
  have k2 := kX.i bq z z
  have k3 := du.f bo z
  have k4 := k3.f bp z
  have k5 := k4.f bq z
  have k6 := dw.f bo z
  have k7 := k6.f bp z
  have k8 := k7.f bq z
  have k9 := kU.st bp z
  have la := k9.st bq z
  exact At.res (.inl z) z (.tmp z (.tmp z (.cell z (la.runAg 0 [vB di, vi dj, vi dk, vi dl, vu dm, vu dn, vi dp, vu dr, vi ds, (Value.slice cw cx cy), vi dt, (Value.slice cz cA cC)] ty32 z z z) .nil))) ⟨ld, lf, (Value.slice cw cx cy), (Value.slice cz cA cC), z, (se_ bR z z), (Sl.outI k2 bR low0 O0_A), (Sl.outI k1 bR low0 O0_A), (Sl.outF k5 bR low0), (Sl.outF k8 bR low0)⟩
theorem c_ref15_Wide {a0 : Int} {a1 : Int} {a2 : Bool} {w : World} {r0 : Bool} (h : ref15_Wide a0 a1 a2 = some r0) : Rets Try.prog 15 [vi a0, vi a1, vB a2] w (fun v w' => v = vB r0 ∧ Ext w w') := by
 unfold ref15_Wide at h
 refine Rets.enter Try.func15 z z ?_
 refine (show WC _ _ _ _ [(0, vi a0), (1, vi a1), (2, vB a2)] _ from ?_)
 refine sq (rg (wY (ya z) z (nl (th (sq (rg (wY (ym z) z (wY (Y.quo_i (by decide) z z) z (wY (ym z) z ?_)))))))))
 refine wY (Y.rem_i (by decide) z z) z ?_
 obtain ⟨G, P, h⟩ := lt1 h
 refine WL.yE (ya z) (congrArg vi P.symm) z ?_
 obtain ⟨Q, S, h⟩ := lt1 h
 refine WL.yE (ya z) (congrArg vi S.symm) z (nl (th (sq (rg (wY (ym z) z (wY (Y.quo_i (by decide) z z) z (wY (ym z) z (wY (Y.rem_i (by decide) z z) z ?_))))))))
 obtain ⟨ah, T, h⟩ := lt1 h
 refine WL.yE (ya z) (congrArg vi T.symm) z ?_
 obtain ⟨ai, U, h⟩ := lt1 h
 refine WL.yE (ya z) (congrArg vi U.symm) z (nl (th (sq ?_)))
 obtain ⟨aj, h, V⟩ := bnd h
 refine WC.join (σ := (Int × Int)) (fun x w' => (x.1, x.2) = aj ∧ w = w') (fun x => [(7, vi G), (8, vi Q), (9, vi x.1), (10, vi x.2)]) ?_ ?_
 ·refine sq (rg (wY (ym z) z (nl (th ?_))))
  rcases cnd h with ⟨j, h⟩ | ⟨j, h⟩
  ·refine WC.condT' z j (sq (rg (wY (ym z) z (wY (Y.sub_i z z) z ?_))))
   obtain ⟨ak, W, h⟩ := lt1 h
   refine WL.yE (ya z) (congrArg vi W.symm) z (nl (th (rg (wY (ym z) z (wY (Y.sub_i z z) z ?_)))))
   obtain ⟨al, X, h⟩ := lt1 h
   refine WL.yE (ya z) (congrArg vi X.symm) z (nl ?_)
   exact At.join (σ := (Int × Int)) (ak, al) ⟨some1 h, z⟩ (.cons z (.cons z (.cons z (.cons z .nil))))
  ·refine WC.condF' z j (sk ?_)
   exact At.join (σ := (Int × Int)) (ah, ai) ⟨some1 h, z⟩ (.cons z (.cons z (.cons z (.cons z .nil))))
 ·rintro ⟨am, an⟩ _ ⟨rfl, rfl⟩
  replace h := V
  try dsimp only at h
  refine (show At _ _ _ [(7, vi G), (8, vi Q), (9, vi am), (10, vi an)] _ from ?_)
  refine th (sq (rg (wY (ym z) z (wY (ym z) z (wY (Y.add_i z z) z ?_)))))
  obtain ⟨H, r, h⟩ := lt1 h
  refine WL.yE (ya z) (congrArg vi r.symm) z (nl (th (sq (rg (wY (ym z) z (wY (ym z) z (wY (Y.add_i z z) z ?_)))))))
  obtain ⟨I, t, h⟩ := lt1 h
  refine WL.yE (ya z) (congrArg vi t.symm) z (nl (th (sq ?_)))
  obtain ⟨ao, h, Z⟩ := bnd h
  refine WC.join (σ := (Int × Int)) (fun x w' => (x.1, x.2) = ao ∧ w = w') (fun x => [(11, vi x.1), (12, vi x.2)]) ?_ ?_
  ·refine sq (rg (wY (ym z) z (wY (Y.gtr_i z z) z (nl (th ?_)))))
   rcases cnd h with ⟨l, h⟩ | ⟨l, h⟩
   ·refine WC.condT' z l (sq (rg (wY (ym z) z (wY (Y.add_i z z) z ?_))))
    obtain ⟨J, C, h⟩ := lt1 h
    refine WL.yE (ya z) (congrArg vi C.symm) z (nl (th (rg (wY (ym z) z (wY (Y.sub_i z z) z ?_)))))
    obtain ⟨K, D, h⟩ := lt1 h
    refine WL.yE (ya z) (congrArg vi D.symm) z (nl ?_)
    exact At.join (σ := (Int × Int)) (J, K) ⟨some1 h, z⟩ (.cons z (.cons z .nil))
   ·refine WC.condF' z l (sk ?_)
    exact At.join (σ := (Int × Int)) (H, I) ⟨some1 h, z⟩ (.cons z (.cons z .nil))
  ·rintro ⟨d, e⟩ _ ⟨rfl, rfl⟩
   replace h := Z
   try dsimp only at h
   refine (show At _ _ _ [(11, vi d), (12, vi e)] _ from ?_)
   refine th (sq ?_)
   obtain ⟨ap, h, aa⟩ := bnd h
   refine WC.join (σ := (Int × Int)) (fun x w' => (x.1, x.2) = ap ∧ w = w') (fun x => [(11, vi x.1), (12, vi x.2)]) ?_ ?_
   ·refine sq (rg (wY (ym z) z (wY (Y.lss_i z z) z (nl (th ?_)))))
    rcases cnd h with ⟨m, h⟩ | ⟨m, h⟩
    ·refine WC.condT' z m (sq (rg (wY (ym z) z (wY (Y.sub_i z z) z ?_))))
     obtain ⟨L, E, h⟩ := lt1 h
     refine WL.yE (ya z) (congrArg vi E.symm) z (nl (th (rg (wY (ym z) z (wY (Y.add_i z z) z ?_)))))
     obtain ⟨M, F, h⟩ := lt1 h
     refine WL.yE (ya z) (congrArg vi F.symm) z (nl ?_)
     exact At.join (σ := (Int × Int)) (L, M) ⟨some1 h, z⟩ (.cons z (.cons z .nil))
    ·refine WC.condF' z m (sk ?_)
     exact At.join (σ := (Int × Int)) (d, e) ⟨some1 h, z⟩ (.cons z (.cons z .nil))
   ·rintro ⟨a, c⟩ _ ⟨rfl, rfl⟩
    replace h := aa
    try dsimp only at h
    refine (show At _ _ _ [(11, vi a), (12, vi c)] _ from ?_)
    refine th (sq (sq (rg (wY (ym z) z (wY (Y.gtr_i z z) z (wY (ym z) z ?_))))))
    refine WL.cut 3 (σ := Unit) (fun _ w' => w = w') (fun _ => [(11, vi a), (12, vi c), (49, vB ((decide (4611686018427387904 < a)) || (decide (a < (-4611686018427387904)))))]) ?_ ?_
    ·refine WL.part 46 z (fun n => ?_) (fun n => ?_)
     ·refine WL.gS z z z z (WL.gS z z z z (wY (Y.pick (b := true) z z) z (WL.ren (v' := vB ((decide (4611686018427387904 < a)) || (decide (a < (-4611686018427387904))))) 49 z (congrArg vB (orT n)) ?_)))
      exact nl (At.join () z (.cons z (.cons z (.cons z .nil))))
     ·refine ug z z (wY (ym z) z (ug z z (wY (Y.lss_i z z) z (wY (Y.pick (b := false) z z) z (WL.ren (v' := vB ((decide (4611686018427387904 < a)) || (decide (a < (-4611686018427387904))))) 49 z (congrArg vB (orF n)) ?_)))))
      exact nl (At.join () z (.cons z (.cons z (.cons z .nil))))
    ·rintro _ _ rfl
     refine (show WL _ _ _ _ _ [(11, vi a), (12, vi c), (49, vB ((decide (4611686018427387904 < a)) || (decide (a < (-4611686018427387904)))))] _ from ?_)
     refine nl (th ?_)
     rcases cnd h with ⟨o, h⟩ | ⟨o, h⟩
     ·refine WC.condT' z o (sq (rg (wY (ya z) z (nl (th (rt (At.thenR ?_)))))))
      obtain rfl := some1 h
      have ab : Stp [] (Lg.O0 (fun _ => False)) w (Lg.O0 (fun _ => False)) w := (sr_ _ _ _)
      exact At.res (.inl z) z (.tmp z .nil) ⟨z, (se_ ab z z)⟩
     ·refine WC.condF' z o (sk (th (sq (sq (rg (wY (ym z) z (wY (Y.eql_i z z) z (nl (th ?_)))))))))
      rcases cnd h with ⟨p, h⟩ | ⟨p, h⟩
      ·refine WC.condT' z p (sq (rg (wY (ym z) z (wY (Y.geq_i z z) z ?_))))
       obtain ⟨aq, ac, h⟩ := lt1 h
       refine WL.yE (ya z) (congrArg vB ac.symm) z (nl (th (rt (At.thenR ?_))))
       obtain rfl := some1 h
       have ad : Stp [] (Lg.O0 (fun _ => False)) w (Lg.O0 (fun _ => False)) w := (sr_ _ _ _)
       exact At.res (.inl z) z (.tmp z .nil) ⟨z, (se_ ad z z)⟩
      ·refine WC.condF' z p (sk (th (sq (rg (wY (ym z) z (wY (Y.eql_i z z) z (wY (ym z) z ?_)))))))
       refine WL.cut 3 (σ := Unit) (fun _ w' => w = w') (fun _ => [(59, vB ((decide (a = (-4611686018427387904))) && (decide (c < 0))))]) ?_ ?_
       ·refine WL.part 56 z (fun q => ?_) (fun q => ?_)
        ·refine ug z z (wY (ym z) z (ug z z (wY (Y.lss_i z z) z (wY (Y.pick (b := true) z z) z (WL.ren (v' := vB ((decide (a = (-4611686018427387904))) && (decide (c < 0)))) 59 z (congrArg vB (andT q)) ?_)))))
         exact nl (At.join () z (.cons z .nil))
        ·refine WL.gS z z z z (WL.gS z z z z (wY (Y.pick (b := false) z z) z (WL.ren (v' := vB ((decide (a = (-4611686018427387904))) && (decide (c < 0)))) 59 z (congrArg vB (andF q)) ?_)))
         exact nl (At.join () z (.cons z .nil))
       ·rintro _ _ rfl
        refine (show WL _ _ _ _ _ [(59, vB ((decide (a = (-4611686018427387904))) && (decide (c < 0))))] _ from ?_)
        obtain ⟨ar, ae, h⟩ := lt1 h
        refine WL.yE (ya z) (congrArg vB ae.symm) z (nl (th (rt ?_)))
        obtain rfl := some1 h
        have af : Stp [] (Lg.O0 (fun _ => False)) w (Lg.O0 (fun _ => False)) w := (sr_ _ _ _)
        exact At.res (.inl z) z (.tmp z .nil) ⟨z, (se_ af z z)⟩
theorem c_law15_TodeltaSums {A : Nat → Prop} {a0 : List api_Point} {v0 : Value} {a1 : Int} {w : World} (hs0 : Sl rep_api_Point w A v0 a0) {r0 : Bool} (h : law15_TodeltaSums a0 a1 = some r0) : Rets Try.prog 4 [v0, vi a1] w (fun v w' => v = vB r0 ∧ Ext w w') := by
 unfold law15_TodeltaSums at h
 refine Rets.enter Try.func4 z z ?_
 have cX : Sl rep_api_Point w (imm (Lg.O0 A)) v0 a0 := (Sl.start hs0)
 refine (show WC _ _ _ _ [(0, v0), (1, vi a1)] _ from ?_)
 refine sq (rg (wY (ya z) z (nl (th (sq (sq (rg ?_)))))))
 obtain ⟨f9, cY, h⟩ := bnd h
 refine WL.call (vals := []) kok11 z z (c_law15_awake cY) ?_
 rintro fD cZ ⟨rfl, c0⟩
 obtain ⟨cO, ea, eb, L⟩ := adoptE (Lg.O0 A) (fun k => 1) c0
 refine wY (Y.not z) z (nl (th ?_))
 rcases cnd h with ⟨aE, h⟩ | ⟨aE, h⟩
 ·refine WC.condT' z aE (sq (rg (wY (ya z) z (nl (th (rt (At.thenR ?_)))))))
  obtain rfl := some1 h
  have c1 : Stp [] (Lg.O0 A) w cO cZ := (su_ L z)
  exact At.res (.inl z) z (.tmp z .nil) ⟨z, (se_ c1 z z)⟩
 ·refine WC.condF' z aE (sk (th (sq (sq (rg (wY (ym z) z ?_))))))
  have ac := cX.i L z z
  obtain ⟨aL, c2, h⟩ := bnd h
  refine WL.call (vals := [v0]) kok12 z z (c_law15_one (A := fun _ => True) (Sl.all ac) c2) ?_
  rintro fF aF ⟨rfl, c3⟩
  obtain ⟨aw, ec, ed, E⟩ := adoptE cO (fun k => 1) c3
  refine wY (Y.not z) z (wY (ym z) z ?_)
  refine WL.cut 4 (σ := Unit) (fun _ w' => aF = w') (fun _ => [(0, v0), (1, vi a1), (19, vB ((!aL) || (decide ((a0.length : Int) = 0))))]) ?_ ?_
  ·refine WL.part 15 z (fun aG => ?_) (fun aG => ?_)
   ·refine WL.gS z z z z (WL.gS z z z z (WL.gS z z z z (wY (Y.pick (b := true) z z) z (WL.ren (v' := vB ((!aL) || (decide ((a0.length : Int) = 0)))) 19 z (congrArg vB (orT aG)) ?_))))
    exact nl (At.join () z (.cons z (.cons z (.cons z .nil))))
   ·refine ug z z (wY (ym z) z (ug z z ?_))
    have c4 := ac.i E z z
    refine wY (Y.len ty22 z c4) z (ug z z (wY (Y.eql_i z z) z (wY (Y.pick (b := false) z z) z (WL.ren (v' := vB ((!aL) || (decide ((a0.length : Int) = 0)))) 19 z (congrArg vB (orF aG)) ?_))))
    exact nl (At.join () z (.cons z (.cons z (.cons z .nil))))
  ·rintro _ _ rfl
   refine (show WL _ _ _ _ _ [(0, v0), (1, vi a1), (19, vB ((!aL) || (decide ((a0.length : Int) = 0))))] _ from ?_)
   refine wY (ym z) z ?_
   obtain ⟨ee, h, c5⟩ := bnd h
   refine WL.cut 6 (σ := Bool) (fun x w' => x = ee ∧ aF = w') (fun x => [(0, v0), (1, vi a1), (26, vB x)]) ?_ ?_
   ·rcases cnd h with ⟨aH, h⟩ | ⟨aH, h⟩
    ·refine WL.ren 20 z (congrArg vB aH) (WL.gS z z z z (WL.gS z z z z (WL.gS z z z z (WL.gS z z z z (WL.gS z z z z (wY (Y.pick (b := true) z z) z ?_))))))
     exact nl (At.join (σ := Bool) true ⟨some1 h, z⟩ (.cons z (.cons z (.cons z .nil))))
    ·refine WL.ren 20 z (congrArg vB aH) (ug z z (wY (ym z) z (ug z z ?_)))
     obtain ⟨t, c6, h⟩ := bnd h
     have c7 := ac.i E z z
     obtain ⟨ga, eM, eN, fG, c8, c9, da, aI, bu, db⟩ := Sl.at2 c7 c6
     obtain ⟨_, _, rfl, rfl, ⟨_, _, rfl, ⟨ef, rfl, fH⟩, ⟨_, _, rfl, rfl, ⟨_, _, rfl, rfl, ⟨_, _, rfl, rfl, ⟨_, _, rfl, rfl, ⟨_, _, rfl, rfl, ⟨_, _, rfl, rfl, ⟨_, _, rfl, rfl, ⟨_, _, rfl, rfl, ⟨_, _, rfl, ⟨_, _, rfl, rfl, ⟨_, _, rfl, rfl, ⟨_, _, rfl, ⟨_, _, rfl, rfl, ⟨eg, rfl, fI⟩⟩, ⟨_, _, rfl, rfl, ⟨eh, rfl, fJ⟩⟩⟩⟩⟩, rfl⟩⟩⟩⟩⟩⟩⟩⟩⟩⟩⟩ := bu
     replace aI : CellsAt _ _ _ [vs t.Name, ef, vi t.Kind, vi t.Temp, vB t.Mono, vi t.Start, vi t.Time, vi t.Int_, vu t.Re, vu t.Im, vi t.Hist.Scale, vu t.Hist.Zero, vi t.Hist.Pos.Offset, eg, vi t.Hist.Neg.Offset, eh, vi t.Flags] := aI
     have bw := CAt.imm aI db
     refine wY (Y.indexAddr ty22 ty37 z c8 z c9 da) z (ug z z (wY (yf fo37_2 z) z (ug z z (wY (yl ty3 z z (bw.at_.sub 2 [vi t.Kind] z)) z (ug z z (wY (Y.neq_i z z) z (wY (Y.pick (b := false) z z) z ?_)))))))
     exact nl (At.join (σ := Bool) (!decide (t.Kind = 1)) ⟨some1 h, z⟩ (.cons z (.cons z (.cons z .nil))))
   ·rintro ei _ ⟨rfl, rfl⟩
    replace h := c5
    try dsimp only at h
    refine (show WL _ _ _ _ _ [(0, v0), (1, vi a1), (26, vB ei)] _ from ?_)
    refine nl (th ?_)
    rcases cnd h with ⟨aJ, h⟩ | ⟨aJ, h⟩
    ·refine WC.condT' z aJ (sq (rg (wY (ya z) z (nl (th (rt (At.thenR ?_)))))))
     obtain rfl := some1 h
     have dc : Stp [] (Lg.O0 A) w aw aF := (tr_ (su_ L z) (su_ E z))
     exact At.res (.inl z) z (.tmp z .nil) ⟨z, (se_ dc z z)⟩
    ·refine WC.condF' z aJ (sk (th (sq (rg (wY (ym z) z (wY (ym z) z ?_))))))
     have dd := ac.i E z z
     obtain ⟨⟨cP, cQ, c⟩, de, h⟩ := bnd h
     refine WL.call (vals := [v0, vi a1]) kok13 z z (c_law15_play (A := imm aw) dd de) ?_
     rintro fK ad ⟨G, H, ej, ek, rfl, df, em, en, eo, ep⟩
     obtain ⟨ax, ay, P, V⟩ := adoptE aw (fun k => 1) df
     have dg : Sl rep_api_Point ad (imm ax) G cP := Sl.adoptI (O := aw) em (fun _ hk => hk) (fun _ _ => Nat.le_refl _) ay P
     have dh : Sl rep_api_Point ad (imm ax) H cQ := Sl.adoptI (O := aw) en (fun _ hk => hk) (fun _ _ => Nat.le_refl _) ay P
     have di : Sl Rep.u ad (frs ax) ej c.Hist.Pos.Counts := Sl.adoptF eo (fun k hk => ⟨hk, z⟩) P
     have dj : Sl Rep.u ad (frs ax) ek c.Hist.Neg.Counts := Sl.adoptF ep (fun k hk => ⟨hk, z⟩) P
     refine wY (ym z) z (wY (yx z z) z (wY (yx z z) z (wY (yx z z) z (WL.alloc (O := ax) 11 [vB false, vi 0, vi 0, vi 0, vu 0, vu 0, vi 0, vu 0, vi 0, Value.slice none 0 0, vi 0, Value.slice none 0 0] ty32 z z ?_))))
     intro gb aW fL F dk
     refine wY (ya z) z (wY (ya z) z ?_)
     have dl := di.f F z
     have dm := h
     obtain ⟨cR, cS, cT, rfl⟩ := dl.shape
     have h := dm
     have dn := dj.f F z
     have dp := h
     obtain ⟨cU, cV, cW, rfl⟩ := dn.shape
     have h := dp
     refine WL.store (v := ag [vB c.Some, vi c.Start, vi c.Time, vi c.Int_, vu c.Re, vu c.Im, vi c.Hist.Scale, vu c.Hist.Zero, vi c.Hist.Pos.Offset, (Value.slice cR cS cT), vi c.Hist.Neg.Offset, (Value.slice cU cV cW)]) (cells' := [vB c.Some, vi c.Start, vi c.Time, vi c.Int_, vu c.Re, vu c.Im, vi c.Hist.Scale, vu c.Hist.Zero, vi c.Hist.Pos.Offset, (Value.slice cR cS cT), vi c.Hist.Neg.Offset, (Value.slice cU cV cW)]) ty32 z z dk z (le_ z) z z ?_
     intro aX I eO
     refine nl (th (sq (rg (wY (ya z) z (nl (th (sq (sq (rg ?_)))))))))
     refine wY (ya z) z (nl (th (WC.block ?_)))
     obtain ⟨aY, h, W⟩ := flow1 h
     obtain ⟨aZ, h⟩ := loop_some h
     refine WC.joinB 0 (σ := Own) (fun x w' => aY = .go () ∧ Stp [] aW aX x w') (fun x => []) ?_ ?_
     ·refine WC.loop (σ := (Int × Int × Own)) (fun x k w' => loopN k (law15_TodeltaSums_lp1 cP cQ) (x.1, x.2.1) = some aY ∧ Stp [] aW aX x.2.2 w') (fun x => [(5, G), (6, H), (8, vi x.1), (9, vi x.2.1)]) (0, 0, aW) aZ (.cons z (.cons z (.cons z (.cons z .nil)))) ⟨h, (sr_ _ _ _)⟩ ?_
      rintro ⟨az, C, aK⟩ aZ aM ⟨h, r⟩
      obtain ⟨dr, fN, rfl, h, Q⟩ := rnd1 h
      unfold law15_TodeltaSums_lp1 at h
      try dsimp only at h r
      refine (show WC _ _ _ _ [(5, G), (6, H), (8, vi az), (9, vi C)] _ from ?_)
      refine sq (sq (rg (wY (ym z) z (wY (ym z) z ?_))))
      have bx := dh.i F z z
      have bz := bx.i I z z
      have X := bz.i r z z
      refine wY (Y.len ty22 z X) z (wY (Y.lss_i z z) z (nl (th ?_)))
      rcases cnd h with ⟨ae, h⟩ | ⟨ae, h⟩
      ·refine WC.condT' z ae (sk (th (sq ?_)))
       obtain ⟨ds, h, Z⟩ := flow1 h
       refine WC.join (σ := (Int × Own)) (fun x w' => ds = .go x.1 ∧ Stp [] aK aM x.2 w') (fun x => [(5, G), (6, H), (8, vi x.1), (9, vi C)]) ?_ ?_
       ·refine WC.block (sq ?_)
        obtain ⟨dt, h, bA⟩ := bnd h
        refine WC.join (σ := Int) (fun x w' => x = dt ∧ aM = w') (fun x => [(5, G), (6, H), (8, vi x), (9, vi C)]) ?_ ?_
        ·refine sq (rg (wY (ym z) z (wY (ym z) z ?_)))
         obtain ⟨o, bB, h⟩ := bnd h
         obtain ⟨fO, er, es, eP, bC, bD, bE, af, a2, bF⟩ := Sl.at2 X bB
         obtain ⟨_, _, rfl, rfl, ⟨_, _, rfl, ⟨du, rfl, eQ⟩, ⟨_, _, rfl, rfl, ⟨_, _, rfl, rfl, ⟨_, _, rfl, rfl, ⟨_, _, rfl, rfl, ⟨_, _, rfl, rfl, ⟨_, _, rfl, rfl, ⟨_, _, rfl, rfl, ⟨_, _, rfl, rfl, ⟨_, _, rfl, ⟨_, _, rfl, rfl, ⟨_, _, rfl, rfl, ⟨_, _, rfl, ⟨_, _, rfl, rfl, ⟨dw, rfl, eR⟩⟩, ⟨_, _, rfl, rfl, ⟨dx, rfl, eS⟩⟩⟩⟩⟩, rfl⟩⟩⟩⟩⟩⟩⟩⟩⟩⟩⟩ := a2
         replace af : CellsAt _ _ _ [vs o.Name, du, vi o.Kind, vi o.Temp, vB o.Mono, vi o.Start, vi o.Time, vi o.Int_, vu o.Re, vu o.Im, vi o.Hist.Scale, vu o.Hist.Zero, vi o.Hist.Pos.Offset, dw, vi o.Hist.Neg.Offset, dx, vi o.Flags] := af
         have a3 := CAt.imm af bF
         refine wY (Y.indexAddr ty22 ty37 z bC z bD bE) z (wY (yf fo37_11 z) z (wY (yl ty3 z z (a3.at_.sub 16 [vi o.Flags] z)) z (wY (Y.neq_i z z) z (nl (th ?_)))))
         rcases cnd h with ⟨ah, h⟩ | ⟨ah, h⟩
         ·refine WC.condT' z ah (rg (wY (ya z) z (nl ?_)))
          exact At.join (σ := Int) 0 ⟨some1 h, z⟩ (.cons z (.cons z (.cons z (.cons z .nil))))
         ·refine WC.condF' z ah (sk ?_)
          exact At.join (σ := Int) az ⟨some1 h, z⟩ (.cons z (.cons z (.cons z (.cons z .nil))))
        ·rintro aA _ ⟨rfl, rfl⟩
         replace h := bA
         try dsimp only at h
         refine (show At _ _ _ [(5, G), (6, H), (8, vi aA), (9, vi C)] _ from ?_)
         refine th (sq (sq (rg (wY (ym z) z (wY (ym z) z (wY (ym z) z ?_))))))
         obtain ⟨d, bG, h⟩ := bnd h
         obtain ⟨fP, et, eu, eT, bH, bI, bJ, ai, a4, bK⟩ := Sl.at2 X bG
         obtain ⟨_, _, rfl, rfl, ⟨_, _, rfl, ⟨dy, rfl, eU⟩, ⟨_, _, rfl, rfl, ⟨_, _, rfl, rfl, ⟨_, _, rfl, rfl, ⟨_, _, rfl, rfl, ⟨_, _, rfl, rfl, ⟨_, _, rfl, rfl, ⟨_, _, rfl, rfl, ⟨_, _, rfl, rfl, ⟨_, _, rfl, ⟨_, _, rfl, rfl, ⟨_, _, rfl, rfl, ⟨_, _, rfl, ⟨_, _, rfl, rfl, ⟨dz, rfl, eV⟩⟩, ⟨_, _, rfl, rfl, ⟨dA, rfl, eW⟩⟩⟩⟩⟩, rfl⟩⟩⟩⟩⟩⟩⟩⟩⟩⟩⟩ := a4
         replace ai : CellsAt _ _ _ [vs d.Name, dy, vi d.Kind, vi d.Temp, vB d.Mono, vi d.Start, vi d.Time, vi d.Int_, vu d.Re, vu d.Im, vi d.Hist.Scale, vu d.Hist.Zero, vi d.Hist.Pos.Offset, dz, vi d.Hist.Neg.Offset, dA, vi d.Flags] := ai
         have a5 := CAt.imm ai bK
         refine wY (Y.indexAddr ty22 ty37 z bH z bI bJ) z (wY (yf fo37_7 z) z (wY (yl ty3 z z (a5.at_.sub 7 [vi d.Int_] z)) z ?_))
         obtain ⟨fQ, bL, h⟩ := bnd h
         refine WL.call (vals := [vi aA, vi d.Int_, vB false]) kok15 z z (c_ref15_Wide bL) ?_
         rintro eX aN ⟨rfl, bM⟩
         obtain ⟨M, d8, d9, J⟩ := adoptE aK (fun k => 1) bM
         refine nl (th ?_)
         rcases cnd h with ⟨aj, h⟩ | ⟨aj, h⟩
         ·refine WC.condT' z aj (sq (rg (wY (ya z) z (nl (th (rt (At.thenR (At.inBlockR ?_))))))))
          have h := outs1 h Z
          refine At.joinR (At.thenR (At.loopR ?_))
          have h := outr1 h Q W
          refine At.joinBR (At.inBlockR (At.thenR ?_))
          obtain rfl := some1 h
          have bO : Stp [11] (Lg.O0 A) w M aN := (tr_ (su_ L z) (tr_ (su_ E z) (tr_ (su_ V z) (tr_ (su_ F z) (tr_ (su_ I z) (tr_ (su_ r z) (su_ J z)))))))
          exact At.res (.inl z) z (.tmp z .nil) ⟨z, (se_ bO z z)⟩
         ·refine WC.condF' z aj (sk (th (sq (rg (wY (ym z) z (wY (ym z) z (wY (ym z) z ?_)))))))
          obtain ⟨p, bP, h⟩ := bnd h
          have aO := X.i J z z
          obtain ⟨fR, ew, ex, eY, bQ, bR, bS, ak, a6, bT⟩ := Sl.at2 aO bP
          obtain ⟨_, _, rfl, rfl, ⟨_, _, rfl, ⟨dB, rfl, eZ⟩, ⟨_, _, rfl, rfl, ⟨_, _, rfl, rfl, ⟨_, _, rfl, rfl, ⟨_, _, rfl, rfl, ⟨_, _, rfl, rfl, ⟨_, _, rfl, rfl, ⟨_, _, rfl, rfl, ⟨_, _, rfl, rfl, ⟨_, _, rfl, ⟨_, _, rfl, rfl, ⟨_, _, rfl, rfl, ⟨_, _, rfl, ⟨_, _, rfl, rfl, ⟨dC, rfl, e0⟩⟩, ⟨_, _, rfl, rfl, ⟨dD, rfl, e1⟩⟩⟩⟩⟩, rfl⟩⟩⟩⟩⟩⟩⟩⟩⟩⟩⟩ := a6
          replace ak : CellsAt _ _ _ [vs p.Name, dB, vi p.Kind, vi p.Temp, vB p.Mono, vi p.Start, vi p.Time, vi p.Int_, vu p.Re, vu p.Im, vi p.Hist.Scale, vu p.Hist.Zero, vi p.Hist.Pos.Offset, dC, vi p.Hist.Neg.Offset, dD, vi p.Flags] := ak
          have a7 := CAt.imm ak bT
          refine wY (Y.indexAddr ty22 ty37 z bQ z bR bS) z (wY (yf fo37_7 z) z (wY (yl ty3 z z (a7.at_.sub 7 [vi p.Int_] z)) z (wY (Y.add_i z z) z ?_)))
          obtain ⟨D, aU, h⟩ := lt1 h
          refine WL.yE (ya z) (congrArg vi aU.symm) z (nl (th (sq (sq (rg (wY (ym z) z (wY (ym z) z (wY (ym z) z ?_))))))))
          obtain ⟨q, bU, h⟩ := bnd h
          have bW := dg.i F z z
          have bX := bW.i I z z
          have bY := bX.i r z z
          have aa := bY.i J z z
          obtain ⟨fT, ey, ez, e2, bZ, b0, b1, al, a8, b2⟩ := Sl.at2 aa bU
          obtain ⟨_, _, rfl, rfl, ⟨_, _, rfl, ⟨dE, rfl, e5⟩, ⟨_, _, rfl, rfl, ⟨_, _, rfl, rfl, ⟨_, _, rfl, rfl, ⟨_, _, rfl, rfl, ⟨_, _, rfl, rfl, ⟨_, _, rfl, rfl, ⟨_, _, rfl, rfl, ⟨_, _, rfl, rfl, ⟨_, _, rfl, ⟨_, _, rfl, rfl, ⟨_, _, rfl, rfl, ⟨_, _, rfl, ⟨_, _, rfl, rfl, ⟨dF, rfl, e6⟩⟩, ⟨_, _, rfl, rfl, ⟨dG, rfl, e7⟩⟩⟩⟩⟩, rfl⟩⟩⟩⟩⟩⟩⟩⟩⟩⟩⟩ := a8
          replace al : CellsAt _ _ _ [vs q.Name, dE, vi q.Kind, vi q.Temp, vB q.Mono, vi q.Start, vi q.Time, vi q.Int_, vu q.Re, vu q.Im, vi q.Hist.Scale, vu q.Hist.Zero, vi q.Hist.Pos.Offset, dF, vi q.Hist.Neg.Offset, dG, vi q.Flags] := al
          have a9 := CAt.imm al b2
          refine wY (Y.indexAddr ty22 ty37 z bZ z b0 b1) z (wY (yf fo37_7 z) z (wY (yl ty3 z z (a9.at_.sub 7 [vi q.Int_] z)) z (wY (Y.neq_i z z) z (nl (th ?_)))))
          rcases cnd h with ⟨am, h⟩ | ⟨am, h⟩
          ·refine WC.condT' z am (sq (rg (wY (ya z) z (nl (th (rt (At.thenR (At.inBlockR ?_))))))))
           have h := outs1 h Z
           refine At.joinR (At.thenR (At.loopR ?_))
           have h := outr1 h Q W
           refine At.joinBR (At.inBlockR (At.thenR ?_))
           obtain rfl := some1 h
           have b3 : Stp [11] (Lg.O0 A) w M aN := (tr_ (su_ L z) (tr_ (su_ E z) (tr_ (su_ V z) (tr_ (su_ F z) (tr_ (su_ I z) (tr_ (su_ r z) (su_ J z)))))))
           exact At.res (.inl z) z (.tmp z .nil) ⟨z, (se_ b3 z z)⟩
          ·refine WC.condF' z am (sk (th (sq (WC.drawH [] [0, 1, 2, 3, 4, 5, 6, 7, 8, 9, 10, 11, 12, 13, 14, 15, 16, 17, 18, 19, 20, 21, 22, 23, 24, 25, 26, 27, 28, 29, 30, 31, 32, 33, 34, 35, 36, 37, 38, 39, 40, 41, 42, 43] M 44 fmix z (by kernel_rfl) ?_))))
           intro ab K
           refine WD.y 0 z (by kernel_rfl) (fun _ _ _ => ym z) z (WD.y 1 z (by kernel_rfl) (fun _ _ _ => ym z) z ?_)
           obtain ⟨a, b4, h⟩ := bnd h
           have b5 := aO.i K z z
           obtain ⟨fU, eA, eB, e8, b6, b7, b8, an, ba, b9⟩ := Sl.at2 b5 b4
           obtain ⟨_, _, rfl, rfl, ⟨_, _, rfl, ⟨dH, rfl, e9⟩, ⟨_, _, rfl, rfl, ⟨_, _, rfl, rfl, ⟨_, _, rfl, rfl, ⟨_, _, rfl, rfl, ⟨_, _, rfl, rfl, ⟨_, _, rfl, rfl, ⟨_, _, rfl, rfl, ⟨_, _, rfl, rfl, ⟨_, _, rfl, ⟨_, _, rfl, rfl, ⟨_, _, rfl, rfl, ⟨_, _, rfl, ⟨_, _, rfl, rfl, ⟨dI, rfl, fa⟩⟩, ⟨_, _, rfl, rfl, ⟨dJ, rfl, fb⟩⟩⟩⟩⟩, rfl⟩⟩⟩⟩⟩⟩⟩⟩⟩⟩⟩ := ba
           replace an : CellsAt _ _ _ [vs a.Name, dH, vi a.Kind, vi a.Temp, vB a.Mono, vi a.Start, vi a.Time, vi a.Int_, vu a.Re, vu a.Im, vi a.Hist.Scale, vu a.Hist.Zero, vi a.Hist.Pos.Offset, dI, vi a.Hist.Neg.Offset, dJ, vi a.Flags] := an
           have bb := CAt.imm an b9
           refine WD.y 2 z (by kernel_rfl) (fun _ _ _ => Y.indexAddr ty22 ty37 z b6 z b7 b8) z (WD.y 3 z (by kernel_rfl) (fun _ _ _ => yf fo37_11 z) z (WD.y 4 z (by kernel_rfl) (fun fc fV bc => have ca := bb.st bc z; yl ty3 z z (ca.at_.sub 16 [vi a.Flags] z)) z (WD.y 5 z (by kernel_rfl) (fun _ _ _ => Y.eql_i z z) z (WD.y 6 z (by kernel_rfl) (fun _ _ _ => ym z) z (WD.y 7 z (by kernel_rfl) (fun _ _ _ => Y.gtr_i z z) z (WD.y 8 z (by kernel_rfl) (fun _ _ _ => ym z) z ?_))))))
           obtain ⟨dK, h, cb⟩ := bnd h
           refine WD.join (σ := Bool) (f' := 22) [21, 20, 19, 18, 17, 16, 15, 14, 13, 12, 11, 10, 9, 8, 7, 6, 5, 4, 3, 2, 1, 0] (fun x O' w' => x = dK ∧ ab = w' ∧ M = O') (fun x => [(5, G), (6, H), (8, vi D), (9, vi C), (72, vB (decide (a.Flags = 4))), (88, vB x)]) (fun aP => ?_) ?_
           ·rcases cnd h with ⟨S, h⟩ | ⟨S, h⟩
            ·refine WD.ren 75 z (congrArg vB S) (WD.gT 9 z (by kernel_rfl) z z (fun _ _ _ => ym z) z (WD.gT 10 z (by kernel_rfl) z z (fun _ _ _ => ym z) z ?_))
             obtain ⟨e, cc, h⟩ := bnd h
             have aQ := aa.i K z z
             obtain ⟨fY, eC, eD, fd, cd, ce, cf, ao, bd, cg⟩ := Sl.at2 aQ cc
             obtain ⟨_, _, rfl, rfl, ⟨_, _, rfl, ⟨dL, rfl, fe⟩, ⟨_, _, rfl, rfl, ⟨_, _, rfl, rfl, ⟨_, _, rfl, rfl, ⟨_, _, rfl, rfl, ⟨_, _, rfl, rfl, ⟨_, _, rfl, rfl, ⟨_, _, rfl, rfl, ⟨_, _, rfl, rfl, ⟨_, _, rfl, ⟨_, _, rfl, rfl, ⟨_, _, rfl, rfl, ⟨_, _, rfl, ⟨_, _, rfl, rfl, ⟨dM, rfl, ff⟩⟩, ⟨_, _, rfl, rfl, ⟨dN, rfl, fg⟩⟩⟩⟩⟩, rfl⟩⟩⟩⟩⟩⟩⟩⟩⟩⟩⟩ := bd
             replace ao : CellsAt _ _ _ [vs e.Name, dL, vi e.Kind, vi e.Temp, vB e.Mono, vi e.Start, vi e.Time, vi e.Int_, vu e.Re, vu e.Im, vi e.Hist.Scale, vu e.Hist.Zero, vi e.Hist.Pos.Offset, dM, vi e.Hist.Neg.Offset, dN, vi e.Flags] := ao
             have bf := CAt.imm ao cg
             refine WD.gT 11 z (by kernel_rfl) z z (fun _ _ _ => Y.indexAddr ty22 ty37 z cd z ce cf) z (WD.gT 12 z (by kernel_rfl) z z (fun _ _ _ => yf fo37_5 z) z (WD.gT 13 z (by kernel_rfl) z z (fun fh f0 bg => have ch := bf.st bg z; yl ty3 z z (ch.at_.sub 5 [vi e.Start] z)) z (WD.gT 14 z (by kernel_rfl) z z (fun _ _ _ => ym z) z (WD.gT 15 z (by kernel_rfl) z z (fun _ _ _ => ym z) z (WD.gT 16 z (by kernel_rfl) z z (fun _ _ _ => Y.sub_i z z) z ?_)))))
             obtain ⟨j, ci, h⟩ := bnd h
             obtain ⟨f1, eE, eF, fi, cj, ck, cl, ap, bh, cm⟩ := Sl.at2 aQ ci
             obtain ⟨_, _, rfl, rfl, ⟨_, _, rfl, ⟨dO, rfl, fj⟩, ⟨_, _, rfl, rfl, ⟨_, _, rfl, rfl, ⟨_, _, rfl, rfl, ⟨_, _, rfl, rfl, ⟨_, _, rfl, rfl, ⟨_, _, rfl, rfl, ⟨_, _, rfl, rfl, ⟨_, _, rfl, rfl, ⟨_, _, rfl, ⟨_, _, rfl, rfl, ⟨_, _, rfl, rfl, ⟨_, _, rfl, ⟨_, _, rfl, rfl, ⟨dP, rfl, fk⟩⟩, ⟨_, _, rfl, rfl, ⟨dQ, rfl, fl⟩⟩⟩⟩⟩, rfl⟩⟩⟩⟩⟩⟩⟩⟩⟩⟩⟩ := bh
             replace ap : CellsAt _ _ _ [vs j.Name, dO, vi j.Kind, vi j.Temp, vB j.Mono, vi j.Start, vi j.Time, vi j.Int_, vu j.Re, vu j.Im, vi j.Hist.Scale, vu j.Hist.Zero, vi j.Hist.Pos.Offset, dP, vi j.Hist.Neg.Offset, dQ, vi j.Flags] := ap
             have bi := CAt.imm ap cm
             refine WD.gT 17 z (by kernel_rfl) z z (fun _ _ _ => Y.indexAddr ty22 ty37 z cj z ck cl) z (WD.gT 18 z (by kernel_rfl) z z (fun _ _ _ => yf fo37_5 z) z (WD.gT 19 z (by kernel_rfl) z z (fun fm f2 bj => have cn := bi.st bj z; yl ty3 z z (cn.at_.sub 5 [vi j.Start] z)) z (WD.gT 20 z (by kernel_rfl) z z (fun _ _ _ => Y.eql_i z z) z (WD.y 21 z (by kernel_rfl) (fun _ _ _ => Y.pick (b := true) z z) z (WD.ren 75 z (congrArg vB S.symm) ?_)))))
             exact aP (decide (e.Start = j.Start)) _ _ _ ⟨some1 h, z, z⟩ (.cons z (.cons z (.cons z (.cons z (.cons z (.cons z .nil))))))
            ·refine WD.ren 75 z (congrArg vB S) (WD.gS 9 z (by kernel_rfl) z z z z (WD.gS 10 z (by kernel_rfl) z z z z (WD.gS 11 z (by kernel_rfl) z z z z (WD.gS 12 z (by kernel_rfl) z z z z (WD.gS 13 z (by kernel_rfl) z z z z (WD.gS 14 z (by kernel_rfl) z z z z (WD.gS 15 z (by kernel_rfl) z z z z (WD.gS 16 z (by kernel_rfl) z z z z (WD.gS 17 z (by kernel_rfl) z z z z ?_)))))))))
             refine WD.gS 18 z (by kernel_rfl) z z z z (WD.gS 19 z (by kernel_rfl) z z z z (WD.gS 20 z (by kernel_rfl) z z z z (WD.y 21 z (by kernel_rfl) (fun _ _ _ => Y.pick (b := false) z z) z (WD.ren 75 z (congrArg vB S.symm) ?_))))
             exact aP false _ _ _ ⟨some1 h, z, z⟩ (.cons z (.cons z (.cons z (.cons z (.cons z (.cons z .nil))))))
           ·rintro dR _ _ ⟨rfl, rfl, rfl⟩
            replace h := cb
            try dsimp only at h
            refine (show WD _ _ _ _ _ _ _ _ [(5, G), (6, H), (8, vi D), (9, vi C), (72, vB (decide (a.Flags = 4))), (88, vB dR)] _ _ from ?_)
            refine WD.y 22 z (by kernel_rfl) (fun _ _ _ => ym z) z ?_
            obtain ⟨dS, h, co⟩ := bnd h
            refine WD.join (σ := Bool) (f' := 15) [28, 27, 26, 25, 24, 23, 22, 21, 20, 19, 18, 17, 16, 15, 14, 13, 12, 11, 10, 9, 8, 7, 6, 5, 4, 3, 2, 1, 0] (fun x O' w' => x = dS ∧ ab = w' ∧ M = O') (fun x => [(5, G), (6, H), (8, vi D), (9, vi C), (72, vB (decide (a.Flags = 4))), (95, vB x)]) (fun aR => ?_) ?_
            ·rcases cnd h with ⟨T, h⟩ | ⟨T, h⟩
             ·refine WD.ren 89 z (congrArg vB T) (WD.gT 23 z (by kernel_rfl) z z (fun _ _ _ => ym z) z (WD.gT 24 z (by kernel_rfl) z z (fun _ _ _ => ym z) z ?_))
              obtain ⟨l, cp, h⟩ := bnd h
              have cq := aa.i K z z
              obtain ⟨f3, eG, eH, fn, cr, cs, ct, aq, bk, cu⟩ := Sl.at2 cq cp
              obtain ⟨_, _, rfl, rfl, ⟨_, _, rfl, ⟨dT, rfl, fo⟩, ⟨_, _, rfl, rfl, ⟨_, _, rfl, rfl, ⟨_, _, rfl, rfl, ⟨_, _, rfl, rfl, ⟨_, _, rfl, rfl, ⟨_, _, rfl, rfl, ⟨_, _, rfl, rfl, ⟨_, _, rfl, rfl, ⟨_, _, rfl, ⟨_, _, rfl, rfl, ⟨_, _, rfl, rfl, ⟨_, _, rfl, ⟨_, _, rfl, rfl, ⟨dU, rfl, fp⟩⟩, ⟨_, _, rfl, rfl, ⟨dV, rfl, fq⟩⟩⟩⟩⟩, rfl⟩⟩⟩⟩⟩⟩⟩⟩⟩⟩⟩ := bk
              replace aq : CellsAt _ _ _ [vs l.Name, dT, vi l.Kind, vi l.Temp, vB l.Mono, vi l.Start, vi l.Time, vi l.Int_, vu l.Re, vu l.Im, vi l.Hist.Scale, vu l.Hist.Zero, vi l.Hist.Pos.Offset, dU, vi l.Hist.Neg.Offset, dV, vi l.Flags] := aq
              have bl := CAt.imm aq cu
              refine WD.gT 25 z (by kernel_rfl) z z (fun _ _ _ => Y.indexAddr ty22 ty37 z cr z cs ct) z (WD.gT 26 z (by kernel_rfl) z z (fun _ _ _ => yf fo37_4 z) z (WD.gT 27 z (by kernel_rfl) z z (fun fr f4 bm => have cv := bl.st bm z; yl ty4 z z (cv.at_.sub 4 [vB l.Mono] z)) z (WD.y 28 z (by kernel_rfl) (fun _ _ _ => Y.pick (b := true) z z) z (WD.ren 89 z (congrArg vB T.symm) ?_))))
              exact aR l.Mono _ _ _ ⟨some1 h, z, z⟩ (.cons z (.cons z (.cons z (.cons z (.cons z (.cons z .nil))))))
             ·refine WD.ren 89 z (congrArg vB T) (WD.gS 23 z (by kernel_rfl) z z z z (WD.gS 24 z (by kernel_rfl) z z z z (WD.gS 25 z (by kernel_rfl) z z z z (WD.gS 26 z (by kernel_rfl) z z z z (WD.gS 27 z (by kernel_rfl) z z z z (WD.y 28 z (by kernel_rfl) (fun _ _ _ => Y.pick (b := false) z z) z (WD.ren 89 z (congrArg vB T.symm) ?_)))))))
              exact aR false _ _ _ ⟨some1 h, z, z⟩ (.cons z (.cons z (.cons z (.cons z (.cons z (.cons z .nil))))))
            ·rintro dW _ _ ⟨rfl, rfl, rfl⟩
             replace h := co
             try dsimp only at h
             refine (show WD _ _ _ _ _ _ _ _ [(5, G), (6, H), (8, vi D), (9, vi C), (72, vB (decide (a.Flags = 4))), (95, vB dW)] _ _ from ?_)
             refine WD.y 29 z (by kernel_rfl) (fun _ _ _ => ym z) z ?_
             obtain ⟨dX, h, cw⟩ := bnd h
             refine WD.join (σ := Bool) (f' := 1) [42, 41, 40, 39, 38, 37, 36, 35, 34, 33, 32, 31, 30, 29, 28, 27, 26, 25, 24, 23, 22, 21, 20, 19, 18, 17, 16, 15, 14, 13, 12, 11, 10, 9, 8, 7, 6, 5, 4, 3, 2, 1, 0] (fun x O' w' => x = dX ∧ ab = w' ∧ M = O') (fun x => [(5, G), (6, H), (8, vi D), (9, vi C), (72, vB (decide (a.Flags = 4))), (109, vB x)]) (fun aS => ?_) ?_
             ·rcases cnd h with ⟨U, h⟩ | ⟨U, h⟩
              ·refine WD.ren 96 z (congrArg vB U) (WD.gT 30 z (by kernel_rfl) z z (fun _ _ _ => ym z) z (WD.gT 31 z (by kernel_rfl) z z (fun _ _ _ => ym z) z ?_))
               obtain ⟨m, cx, h⟩ := bnd h
               have aT := aa.i K z z
               obtain ⟨f5, eI, eJ, fs, cy, cz, cA, ar, bn, cC⟩ := Sl.at2 aT cx
               obtain ⟨_, _, rfl, rfl, ⟨_, _, rfl, ⟨dY, rfl, ft⟩, ⟨_, _, rfl, rfl, ⟨_, _, rfl, rfl, ⟨_, _, rfl, rfl, ⟨_, _, rfl, rfl, ⟨_, _, rfl, rfl, ⟨_, _, rfl, rfl, ⟨_, _, rfl, rfl, ⟨_, _, rfl, rfl, ⟨_, _, rfl, ⟨_, _, rfl, rfl, ⟨_, _, rfl, rfl, ⟨_, _, rfl, ⟨_, _, rfl, rfl, ⟨dZ, rfl, fu⟩⟩, ⟨_, _, rfl, rfl, ⟨d0, rfl, fv⟩⟩⟩⟩⟩, rfl⟩⟩⟩⟩⟩⟩⟩⟩⟩⟩⟩ := bn
               replace ar : CellsAt _ _ _ [vs m.Name, dY, vi m.Kind, vi m.Temp, vB m.Mono, vi m.Start, vi m.Time, vi m.Int_, vu m.Re, vu m.Im, vi m.Hist.Scale, vu m.Hist.Zero, vi m.Hist.Pos.Offset, dZ, vi m.Hist.Neg.Offset, d0, vi m.Flags] := ar
               have bo := CAt.imm ar cC
               refine WD.gT 32 z (by kernel_rfl) z z (fun _ _ _ => Y.indexAddr ty22 ty37 z cy z cz cA) z (WD.gT 33 z (by kernel_rfl) z z (fun _ _ _ => yf fo37_7 z) z (WD.gT 34 z (by kernel_rfl) z z (fun fw f6 bp => have cD := bo.st bp z; yl ty3 z z (cD.at_.sub 7 [vi m.Int_] z)) z (WD.gT 35 z (by kernel_rfl) z z (fun _ _ _ => ym z) z (WD.gT 36 z (by kernel_rfl) z z (fun _ _ _ => ym z) z (WD.gT 37 z (by kernel_rfl) z z (fun _ _ _ => Y.sub_i z z) z ?_)))))
               obtain ⟨n, cE, h⟩ := bnd h
               obtain ⟨f7, eK, eL, fx, cF, cG, cH, au, bq, cI⟩ := Sl.at2 aT cE
               obtain ⟨_, _, rfl, rfl, ⟨_, _, rfl, ⟨d1, rfl, fy⟩, ⟨_, _, rfl, rfl, ⟨_, _, rfl, rfl, ⟨_, _, rfl, rfl, ⟨_, _, rfl, rfl, ⟨_, _, rfl, rfl, ⟨_, _, rfl, rfl, ⟨_, _, rfl, rfl, ⟨_, _, rfl, rfl, ⟨_, _, rfl, ⟨_, _, rfl, rfl, ⟨_, _, rfl, rfl, ⟨_, _, rfl, ⟨_, _, rfl, rfl, ⟨d2, rfl, fz⟩⟩, ⟨_, _, rfl, rfl, ⟨d3, rfl, fA⟩⟩⟩⟩⟩, rfl⟩⟩⟩⟩⟩⟩⟩⟩⟩⟩⟩ := bq
               replace au : CellsAt _ _ _ [vs n.Name, d1, vi n.Kind, vi n.Temp, vB n.Mono, vi n.Start, vi n.Time, vi n.Int_, vu n.Re, vu n.Im, vi n.Hist.Scale, vu n.Hist.Zero, vi n.Hist.Pos.Offset, d2, vi n.Hist.Neg.Offset, d3, vi n.Flags] := au
               have br := CAt.imm au cI
               refine WD.gT 38 z (by kernel_rfl) z z (fun _ _ _ => Y.indexAddr ty22 ty37 z cF z cG cH) z (WD.gT 39 z (by kernel_rfl) z z (fun _ _ _ => yf fo37_7 z) z (WD.gT 40 z (by kernel_rfl) z z (fun fB f8 bs => have cJ := br.st bs z; yl ty3 z z (cJ.at_.sub 7 [vi n.Int_] z)) z (WD.gT 41 z (by kernel_rfl) z z (fun _ _ _ => Y.lss_i z z) z (WD.y 42 z (by kernel_rfl) (fun _ _ _ => Y.pick (b := true) z z) z (WD.ren 96 z (congrArg vB U.symm) ?_)))))
               exact aS (decide (m.Int_ < n.Int_)) _ _ _ ⟨some1 h, z, z⟩ (.cons z (.cons z (.cons z (.cons z (.cons z (.cons z .nil))))))
              ·refine WD.ren 96 z (congrArg vB U) (WD.gS 30 z (by kernel_rfl) z z z z (WD.gS 31 z (by kernel_rfl) z z z z (WD.gS 32 z (by kernel_rfl) z z z z (WD.gS 33 z (by kernel_rfl) z z z z (WD.gS 34 z (by kernel_rfl) z z z z (WD.gS 35 z (by kernel_rfl) z z z z (WD.gS 36 z (by kernel_rfl) z z z z (WD.gS 37 z (by kernel_rfl) z z z z (WD.gS 38 z (by kernel_rfl) z z z z ?_)))))))))
               refine WD.gS 39 z (by kernel_rfl) z z z z (WD.gS 40 z (by kernel_rfl) z z z z (WD.gS 41 z (by kernel_rfl) z z z z (WD.y 42 z (by kernel_rfl) (fun _ _ _ => Y.pick (b := false) z z) z (WD.ren 96 z (congrArg vB U.symm) ?_))))
               exact aS false _ _ _ ⟨some1 h, z, z⟩ (.cons z (.cons z (.cons z (.cons z (.cons z (.cons z .nil))))))
             ·rintro d4 _ _ ⟨rfl, rfl, rfl⟩
              replace h := cw
              try dsimp only at h
              refine (show WD _ _ _ _ _ _ _ _ [(5, G), (6, H), (8, vi D), (9, vi C), (72, vB (decide (a.Flags = 4))), (109, vB d4)] _ _ from ?_)
              refine WD.y 43 z (by kernel_rfl) (fun _ _ _ => Y.neqB z z ty4.u) z (WD.done_ (by kernel_rfl) (th ?_))
              rcases cnd h with ⟨av, h⟩ | ⟨av, h⟩
              ·refine WC.condT' z av (sq (rg (wY (ya z) z (nl (th (rt (At.inBlockR ?_)))))))
               have h := outs1 h Z
               refine At.joinR (At.thenR (At.loopR ?_))
               have h := outr1 h Q W
               refine At.joinBR (At.inBlockR (At.thenR ?_))
               obtain rfl := some1 h
               have cK : Stp [11] (Lg.O0 A) w M ab := (tr_ (su_ L z) (tr_ (su_ E z) (tr_ (su_ V z) (tr_ (su_ F z) (tr_ (su_ I z) (tr_ (su_ r z) (tr_ (su_ J z) (su_ K z))))))))
               exact At.res (.inl z) z (.tmp z .nil) ⟨z, (se_ cK z z)⟩
              ·refine WC.condF' z av (sk (At.inBlock ?_))
               exact At.join (σ := (Int × Own)) (D, M) ⟨go2 h, (tr_ (su_ J z) (su_ K z))⟩ (.cons z (.cons z (.cons z (.cons z .nil))))
       ·rintro ⟨aC, d5⟩ fC ⟨rfl, aD⟩
        replace h := flowK_go Z
        try dsimp only at h aD
        refine (show At _ _ _ [(5, G), (6, H), (8, vi aC), (9, vi C)] _ from ?_)
        refine th (rg (wY (ym z) z (wY (Y.add_i z z) z ?_)))
        obtain ⟨d6, cL, h⟩ := lt1 h
        refine WL.yE (ya z) (congrArg vi cL.symm) z (nl ?_)
        exact At.round (aC, d6, d5) dr (Nat.lt_succ_self _) ⟨next1 h Q, (tr_ (su_ r z) (su_ aD z))⟩ (.cons z (.cons z (.cons z (.cons z .nil))))
      ·refine WC.condF' z ae (WC.exit (At.thenX (At.loopX ?_)))
       exact At.hitB (σ := Own) aK ⟨brk1 h Q, (su_ r z)⟩ .nil
     ·rintro d7 cM ⟨rfl, bt⟩
      replace h := flowK_go W
      refine (show At _ _ _ [] _ from ?_)
      refine At.inBlockHit (th (sq (rg (wY (ya z) z (nl (th (rt ?_)))))))
      obtain rfl := some1 h
      have cN : Stp [11] (Lg.O0 A) w d7 cM := (tr_ (su_ L z) (tr_ (su_ E z) (tr_ (su_ V z) (tr_ (su_ F z) (tr_ (su_ I z) (su_ bt z))))))
      exact At.res (.inl z) z (.tmp z .nil) ⟨z, (se_ cN z z)⟩
end Go.Lg
