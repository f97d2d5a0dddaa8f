/- The walks of TocumMirror and of what it calls, printed by gen.py. -/
import Derived.Test.YtoiklipabcecfaaMiLgConvWTocumMirrorx2
set_option linter.unusedVariables false
namespace Go.Lg
open Go Go.Proofs
set_option maxRecDepth 100000
set_option maxHeartbeats 4000000
theorem c_todelta_less {A : Nat → Prop} {v0_1 : Value} {v0_13 : Value} {v0_15 : Value} {a0 : api_Point} {v1_6 : Value} {v1_8 : Value} {a1 : todelta_value} {w : World} (hs0_1 : Sl rep_api_Pair w A v0_1 a0.Attrs) (hs0_13 : Sl Rep.u w A v0_13 a0.Hist.Pos.Counts) (hs0_15 : Sl Rep.u w A v0_15 a0.Hist.Neg.Counts) (hs1_6 : Sl Rep.u w A v1_6 a1.h.Pos.Counts) (hs1_8 : Sl Rep.u w A v1_8 a1.h.Neg.Counts) {r0 : todelta_value} {r1 : Int} (h : todelta_less a0 a1 = some (r0, r1)) : Rets Try.prog 66 [ag [vs a0.Name, v0_1, vi a0.Kind, vi a0.Temp, vB a0.Mono, vi a0.Start, vi a0.Time, vi a0.Int_, vu a0.Re, vu a0.Im, vi a0.Hist.Scale, vu a0.Hist.Zero, vi a0.Hist.Pos.Offset, v0_13, vi a0.Hist.Neg.Offset, v0_15, vi a0.Flags], ag [vi a1.i, vu a1.re, vu a1.im, vi a1.h.Scale, vu a1.h.Zero, vi a1.h.Pos.Offset, v1_6, vi a1.h.Neg.Offset, v1_8]] w (fun v w' => ∃ (aG : Value) (aH : Value), v = Value.tuple (List.toArray [ag [vi r0.i, vu r0.re, vu r0.im, vi r0.h.Scale, vu r0.h.Zero, vi r0.h.Pos.Offset, aG, vi r0.h.Neg.Offset, aH], vi r1]) ∧ Ext w w' ∧ Sl Rep.u w' (fun k => w.heap.size ≤ k) aG r0.h.Pos.Counts ∧ Sl Rep.u w' (fun k => w.heap.size ≤ k) aH r0.h.Neg.Counts) := by
 unfold todelta_less at h
 refine Rets.enter Try.func66 z z ?_
 have c1 : Sl rep_api_Pair w (imm (Lg.O0 A)) v0_1 a0.Attrs := (Sl.start hs0_1)
 have aI : Sl Rep.u w (imm (Lg.O0 A)) v0_13 a0.Hist.Pos.Counts := (Sl.start hs0_13)
 have aJ : Sl Rep.u w (imm (Lg.O0 A)) v0_15 a0.Hist.Neg.Counts := (Sl.start hs0_15)
 have c2 : Sl Rep.u w (imm (Lg.O0 A)) v1_6 a1.h.Pos.Counts := (Sl.start hs1_6)
 have c3 : Sl Rep.u w (imm (Lg.O0 A)) v1_8 a1.h.Neg.Counts := (Sl.start hs1_8)
 refine (show WC _ _ _ _ [(0, ag [vs a0.Name, v0_1, vi a0.Kind, vi a0.Temp, vB a0.Mono, vi a0.Start, vi a0.Time, vi a0.Int_, vu a0.Re, vu a0.Im, vi a0.Hist.Scale, vu a0.Hist.Zero, vi a0.Hist.Pos.Offset, v0_13, vi a0.Hist.Neg.Offset, v0_15, vi a0.Flags]), (1, ag [vi a1.i, vu a1.re, vu a1.im, vi a1.h.Scale, vu a1.h.Zero, vi a1.h.Pos.Offset, v1_6, vi a1.h.Neg.Offset, v1_8])] _ from ?_)
 refine sq (rg ?_)
 have c4 := h
 obtain ⟨d7, d8, d9, rfl⟩ := c1.shape
 have h := c4
 have c5 := h
 obtain ⟨aK, aL, aM, rfl⟩ := aI.shape
 have h := c5
 have c6 := h
 obtain ⟨aN, aO, aP, rfl⟩ := aJ.shape
 have h := c6
 refine WL.box (O := (Lg.O0 A)) 11 [vs a0.Name, (Value.slice d7 d8 d9), vi a0.Kind, vi a0.Temp, vB a0.Mono, vi a0.Start, vi a0.Time, vi a0.Int_, vu a0.Re, vu a0.Im, vi a0.Hist.Scale, vu a0.Hist.Zero, vi a0.Hist.Pos.Offset, (Value.slice aK aL aM), vi a0.Hist.Neg.Offset, (Value.slice aN aO aP), vi a0.Flags] z z z ?_
 intro ay ea eB e c7
 have aQ := c2.i e z z
 have c8 := h
 obtain ⟨aR, aS, aT, rfl⟩ := aQ.shape
 have h := c8
 have aU := c3.i e z z
 have c9 := h
 obtain ⟨aW, aX, aY, rfl⟩ := aU.shape
 have h := c9
 refine WL.box (O := ea) 12 [vi a1.i, vu a1.re, vu a1.im, vi a1.h.Scale, vu a1.h.Zero, vi a1.h.Pos.Offset, (Value.slice aR aS aT), vi a1.h.Neg.Offset, (Value.slice aW aX aY)] z z z ?_
 intro az eb eC d Z
 refine WL.alloc (O := eb) 13 [vi 0, vu 0, vu 0, vi 0, vu 0, vi 0, Value.slice none 0 0, vi 0, Value.slice none 0 0] ty102 z z ?_
 intro T W da c p
 refine wY (ya z) z (nl (th (sq (sq (rg (wY (yf fo37_2 z) z ?_))))))
 have db := c7.st d z
 have n := db.st c z
 refine wY (yl ty3 z z (n.cell 2 _ z)) z (nl (th (WC.block (sq (rg (wY (Y.eql_i z z) z ?_))))))
 obtain ⟨eM, dc, h⟩ := lt1 h
 refine WL.yE (ya z) (congrArg vB dc.symm) z (nl (th ?_))
 rcases cnd h with ⟨ak, h⟩ | ⟨ak, h⟩
 ·refine WC.condT' z ak (sq (rg (wY (yf fo37_7 z) z (wY (yl ty3 z z (n.cell 7 _ z)) z (wY (yf fo102_0 z) z ?_)))))
  have al := Z.st c z
  refine wY (yl ty3 z z (al.cell 0 _ z)) z (wY (Y.sub_i z z) z ?_)
  obtain ⟨U, dd, h⟩ := lt1 h
  refine WL.yE (ya z) (congrArg vi dd.symm) z (nl (th (sq (sq (rg (wY (yf fo37_4 z) z (wY (yl ty4 z z (n.cell 4 _ z)) z (wY (ym z) z ?_))))))))
  refine WL.cut 6 (σ := Unit) (fun _ w' => da = w') (fun _ => [(2, pt ay 0), (3, pt az 0), (4, pt T 0), (6, vi U), (29, vB (a0.Mono && (decide (a0.Int_ < a1.i))))]) ?_ ?_
  ·refine WL.part 23 z (fun am => ?_) (fun am => ?_)
   ·refine ug z z (wY (yf fo37_7 z) z (ug z z (wY (yl ty3 z z (n.cell 7 _ z)) z (ug z z (wY (yf fo102_0 z) z (ug z z (wY (yl ty3 z z (al.cell 0 _ z)) z (ug z z (wY (Y.lss_i z z) z ?_)))))))))
    refine wY (Y.pick (b := true) z z) z (WL.ren (v' := vB (a0.Mono && (decide (a0.Int_ < a1.i)))) 29 z (congrArg vB (andT am)) ?_)
    exact nl (At.join () z (.cons z (.cons z (.cons z (.cons z (.cons z .nil))))))
   ·refine WL.gS z z z z (WL.gS z z z z (WL.gS z z z z (WL.gS z z z z (WL.gS z z z z (wY (Y.pick (b := false) z z) z (WL.ren (v' := vB (a0.Mono && (decide (a0.Int_ < a1.i)))) 29 z (congrArg vB (andF am)) ?_))))))
    exact nl (At.join () z (.cons z (.cons z (.cons z (.cons z (.cons z .nil))))))
  ·rintro _ _ rfl
   refine (show WL _ _ _ _ _ [(2, pt ay 0), (3, pt az 0), (4, pt T 0), (6, vi U), (29, vB (a0.Mono && (decide (a0.Int_ < a1.i))))] _ from ?_)
   refine nl (th ?_)
   rcases cnd h with ⟨an, h⟩ | ⟨an, h⟩
   ·refine WC.condT' z an (sq (rg (wY (yb (vals := []) (cells := [vi 0, vu 0, vu 0, vi 0, vu 0, vi 0, Value.slice none 0 0, vi 0, Value.slice none 0 0]) (fe_ z) (by kernel_rfl)) z (WL.store (v := ag [vi 0, vu 0, vu 0, vi 0, vu 0, vi 0, Value.slice none 0 0, vi 0, Value.slice none 0 0]) (cells' := [vi 0, vu 0, vu 0, vi 0, vu 0, vi 0, Value.slice none 0 0, vi 0, Value.slice none 0 0]) ty102 z z p z (le_ z) z z ?_))))
    intro de bh df
    refine wY (ya z) z (nl (th (rt (At.thenR (At.inBlockR (At.thenR ?_))))))
    obtain ⟨rfl, rfl⟩ := tup2 h
    have dg : Stp [13] (Lg.O0 A) w W de := (tr_ (su_ e z) (tr_ (su_ d z) (tr_ (su_ c z) (su_ bh z))))
    exact At.res (.inl z) z (.cell z (df.runAg 0 [vi 0, vu 0, vu 0, vi 0, vu 0, vi 0, Value.slice none 0 0, vi 0, Value.slice none 0 0] ty102 z z z) (.tmp z .nil)) ⟨Value.slice none 0 0, Value.slice none 0 0, z, (se_ dg z z), (Or.inl ⟨z, z⟩), (Or.inl ⟨z, z⟩)⟩
   ·refine WC.condF' z an (sk (th (sq (sq (rg (wY (ym z) z (wY (yf fo37_7 z) z (wY (yl ty3 z z (n.cell 7 _ z)) z (wY (Y.lss_i z z) z ?_)))))))))
    refine wY (yf fo102_0 z) z (wY (yl ty3 z z (al.cell 0 _ z)) z (wY (Y.gtr_i z z) z (wY (Y.neqB z z ty4.u) z (nl (th ?_)))))
    rcases cnd h with ⟨ao, h⟩ | ⟨ao, h⟩
    ·refine WC.condT' z ao (sq (rg (wY (yb (vals := []) (cells := [vi 0, vu 0, vu 0, vi 0, vu 0, vi 0, Value.slice none 0 0, vi 0, Value.slice none 0 0]) (fe_ z) (by kernel_rfl)) z (WL.store (v := ag [vi 0, vu 0, vu 0, vi 0, vu 0, vi 0, Value.slice none 0 0, vi 0, Value.slice none 0 0]) (cells' := [vi 0, vu 0, vu 0, vi 0, vu 0, vi 0, Value.slice none 0 0, vi 0, Value.slice none 0 0]) ty102 z z p z (le_ z) z z ?_))))
     intro dh bi di
     refine wY (ya z) z (nl (th (rt (At.thenR (At.inBlockR (At.thenR ?_))))))
     obtain ⟨rfl, rfl⟩ := tup2 h
     have dj : Stp [13] (Lg.O0 A) w W dh := (tr_ (su_ e z) (tr_ (su_ d z) (tr_ (su_ c z) (su_ bi z))))
     exact At.res (.inl z) z (.cell z (di.runAg 0 [vi 0, vu 0, vu 0, vi 0, vu 0, vi 0, Value.slice none 0 0, vi 0, Value.slice none 0 0] ty102 z z z) (.tmp z .nil)) ⟨Value.slice none 0 0, Value.slice none 0 0, z, (se_ dj z z), (Or.inl ⟨z, z⟩), (Or.inl ⟨z, z⟩)⟩
    ·refine WC.condF' z ao (sk (th (sq (rg (wY (ym z) z (wY (yb (vals := [(0, vi U)]) (cells := [vi U, vu 0, vu 0, vi 0, vu 0, vi 0, Value.slice none 0 0, vi 0, Value.slice none 0 0]) (fe_ z) (by kernel_rfl)) z (WL.store (v := ag [vi U, vu 0, vu 0, vi 0, vu 0, vi 0, Value.slice none 0 0, vi 0, Value.slice none 0 0]) (cells' := [vi U, vu 0, vu 0, vi 0, vu 0, vi 0, Value.slice none 0 0, vi 0, Value.slice none 0 0]) ty102 z z p z (le_ z) z z ?_)))))))
     intro dk bj dl
     refine wY (ya z) z (nl (th (rt (At.inBlockR (At.thenR ?_)))))
     obtain ⟨rfl, rfl⟩ := tup2 h
     have dm : Stp [13] (Lg.O0 A) w W dk := (tr_ (su_ e z) (tr_ (su_ d z) (tr_ (su_ c z) (su_ bj z))))
     exact At.res (.inl z) z (.cell z (dl.runAg 0 [vi U, vu 0, vu 0, vi 0, vu 0, vi 0, Value.slice none 0 0, vi 0, Value.slice none 0 0] ty102 z z z) (.tmp z .nil)) ⟨Value.slice none 0 0, Value.slice none 0 0, z, (se_ dm z z), (Or.inl ⟨z, z⟩), (Or.inl ⟨z, z⟩)⟩
 ·refine WC.condF' z ak (sq (rg (wY (Y.eql_i z z) z ?_)))
  obtain ⟨eN, dn, h⟩ := lt1 h
  refine WL.yE (ya z) (congrArg vB dn.symm) z (nl (th ?_))
  rcases cnd h with ⟨ap, h⟩ | ⟨ap, h⟩
  ·refine WC.condT' z ap (sq (rg (wY (yf fo37_8 z) z (wY (yl ty25 z z (n.cell 8 _ z)) z (wY (yf fo102_1 z) z ?_)))))
   have aq := Z.st c z
   refine wY (yl ty25 z z (aq.cell 1 _ z)) z ?_
   obtain ⟨q, dp, h⟩ := bnd h
   refine WL.call (vals := [vu a0.Re, vu a1.re]) kok89 z z (c_num_Sub dp) ?_
   rintro eD dr ⟨rfl, ds⟩
   obtain ⟨aZ, ec, ed, l⟩ := adoptE W (fun k => 1) ds
   refine wY (ya z) z (nl (th (sq (sq (rg (wY (yf fo37_4 z) z ?_))))))
   have ar := n.st l z
   refine wY (yl ty4 z z (ar.cell 4 _ z)) z (wY (ym z) z ?_)
   obtain ⟨ee, h, dt⟩ := bnd h
   refine WL.cut 6 (σ := (Bool × Own)) (fun x w' => x.1 = ee ∧ Stp [] aZ dr x.2 w') (fun x => [(2, pt ay 0), (3, pt az 0), (4, pt T 0), (7, vu q), (57, vB x.1)]) ?_ ?_
   ·rcases cnd h with ⟨au, h⟩ | ⟨au, h⟩
    ·refine WL.ren 51 z (congrArg vB au) (ug z z (wY (yf fo37_8 z) z (ug z z (wY (yl ty25 z z (ar.cell 8 _ z)) z (ug z z (wY (yf fo102_1 z) z (ug z z ?_)))))))
     have du := aq.st l z
     refine wY (yl ty25 z z (du.cell 1 _ z)) z (ug z z ?_)
     obtain ⟨ef, dw, h⟩ := bnd h
     refine WL.call (vals := [vu a0.Re, vu a1.re]) kok41 z z (c_num_Less dw) ?_
     rintro eE eF ⟨rfl, dx⟩
     obtain ⟨dy, dU, dV, a2⟩ := adoptE aZ (fun k => 1) dx
     refine wY (Y.pick (b := true) z z) z ?_
     exact nl (At.join (σ := (Bool × Own)) (ef, dy) ⟨some1 h, (su_ a2 z)⟩ (.cons z (.cons z (.cons z (.cons z (.cons z .nil))))))
    ·refine WL.ren 51 z (congrArg vB au) (WL.gS z z z z (WL.gS z z z z (WL.gS z z z z (WL.gS z z z z (WL.gS z z z z (wY (Y.pick (b := false) z z) z ?_))))))
     exact nl (At.join (σ := (Bool × Own)) (false, aZ) ⟨some1 h, (sr_ _ _ _)⟩ (.cons z (.cons z (.cons z (.cons z (.cons z .nil))))))
   ·rintro ⟨eg, c0⟩ eG ⟨rfl, m⟩
    replace h := dt
    try dsimp only at h m
    refine (show WL _ _ _ _ _ [(2, pt ay 0), (3, pt az 0), (4, pt T 0), (7, vu q), (57, vB eg)] _ from ?_)
    refine nl (th ?_)
    rcases cnd h with ⟨aa, h⟩ | ⟨aa, h⟩
    ·refine WC.condT' z aa (sq (rg (wY (yb (vals := []) (cells := [vi 0, vu 0, vu 0, vi 0, vu 0, vi 0, Value.slice none 0 0, vi 0, Value.slice none 0 0]) (fe_ z) (by kernel_rfl)) z ?_)))
     have bk := p.st l z
     have bl := bk.st m z
     refine WL.store (v := ag [vi 0, vu 0, vu 0, vi 0, vu 0, vi 0, Value.slice none 0 0, vi 0, Value.slice none 0 0]) (cells' := [vi 0, vu 0, vu 0, vi 0, vu 0, vi 0, Value.slice none 0 0, vi 0, Value.slice none 0 0]) ty102 z z bl z (le_ z) z z ?_
     intro bm a3 bn
     refine wY (ya z) z (nl (th (rt (At.thenR (At.inBlockR (At.thenR ?_))))))
     obtain ⟨rfl, rfl⟩ := tup2 h
     have bo : Stp [13] (Lg.O0 A) w c0 bm := (tr_ (su_ e z) (tr_ (su_ d z) (tr_ (su_ c z) (tr_ (su_ l z) (tr_ (su_ m z) (su_ a3 z))))))
     exact At.res (.inl z) z (.cell z (bn.runAg 0 [vi 0, vu 0, vu 0, vi 0, vu 0, vi 0, Value.slice none 0 0, vi 0, Value.slice none 0 0] ty102 z z z) (.tmp z .nil)) ⟨Value.slice none 0 0, Value.slice none 0 0, z, (se_ bo z z), (Or.inl ⟨z, z⟩), (Or.inl ⟨z, z⟩)⟩
    ·refine WC.condF' z aa (sk (th (sq (sq (rg (wY (ym z) z (WL.buildSlice (O := c0) (R := Rep.u) (vals := [(0, vu q)]) 14 [vu q] (xs := [q]) (by decide) ty26 ty25 (by decide) (by decide) (fe_ z) (by kernel_rfl) z ⟨[vu q], [], z, z, z⟩ z ?_)))))))
     intro dz dA eh r bp
     obtain ⟨eH, bq, h⟩ := bnd h
     refine WL.call (vals := [dz]) kok90 z z (c_todelta_finite (A := fun _ => True) (bp.src.sl) bq) ?_
     rintro ei br ⟨rfl, bs⟩
     obtain ⟨av, dW, dX, t⟩ := adoptE dA (fun k => 1) bs
     refine wY (Y.not z) z (wY (ym z) z ?_)
     obtain ⟨dB, h, bt⟩ := bnd h
     refine WL.cut 7 (σ := (Bool × Own)) (fun x w' => x.1 = dB ∧ Stp [] av br x.2 w') (fun x => [(4, pt T 0), (7, vu q), (70, vB x.1)]) ?_ ?_
     ·rcases cnd h with ⟨ab, h⟩ | ⟨ab, h⟩
      ·refine WL.ren 63 z (congrArg vB ab) (ug z z (wY (yf fo37_8 z) z (ug z z ?_)))
       have bu := ar.st m z
       have bw := bu.st r z
       have bx := bw.st t z
       refine wY (yl ty25 z z (bx.cell 8 _ z)) z (ug z z (wY (yf fo102_1 z) z (ug z z ?_)))
       have bz := aq.st l z
       have bA := bz.st m z
       have bB := bA.st r z
       have bC := bB.st t z
       refine wY (yl ty25 z z (bC.cell 1 _ z)) z (ug z z (WL.buildSlice (O := av) (R := Rep.u) (vals := [(0, vu a0.Re), (1, vu a1.re)]) 15 [vu a0.Re, vu a1.re] (xs := [a0.Re, a1.re]) (by decide) ty26 ty25 (by decide) (by decide) (fe_ z) (by kernel_rfl) z ⟨[vu a0.Re], [vu a1.re], z, z, ⟨[vu a1.re], [], z, z, z⟩⟩ z ?_))
       intro dC dD ej a4 bD
       refine ug z z ?_
       obtain ⟨dE, bE, h⟩ := bnd h
       refine WL.call (vals := [dC]) kok90 z z (c_todelta_finite (A := fun _ => True) (bD.src.sl) bE) ?_
       rintro ek em ⟨rfl, bF⟩
       obtain ⟨dF, dY, dZ, a5⟩ := adoptE dD (fun k => 1) bF
       refine wY (Y.pick (b := true) z z) z ?_
       exact nl (At.join (σ := (Bool × Own)) (dE, dF) ⟨some1 h, (tr_ (su_ a4 z) (su_ a5 z))⟩ (.cons z (.cons z (.cons z .nil))))
      ·refine WL.ren 63 z (congrArg vB ab) (WL.gS z z z z (WL.gS z z z z (WL.gS z z z z (WL.gS z z z z (WL.gS z z z z (WL.gS z z z z (wY (Y.pick (b := false) z z) z ?_)))))))
       exact nl (At.join (σ := (Bool × Own)) (false, av) ⟨some1 h, (sr_ _ _ _)⟩ (.cons z (.cons z (.cons z .nil))))
     ·rintro ⟨dG, a6⟩ en ⟨rfl, P⟩
      replace h := bt
      try dsimp only at h P
      refine (show WL _ _ _ _ _ [(4, pt T 0), (7, vu q), (70, vB dG)] _ from ?_)
      refine nl (th ?_)
      rcases cnd h with ⟨ac, h⟩ | ⟨ac, h⟩
      ·refine WC.condT' z ac (sq (rg (wY (yb (vals := []) (cells := [vi 0, vu 0, vu 0, vi 0, vu 0, vi 0, Value.slice none 0 0, vi 0, Value.slice none 0 0]) (fe_ z) (by kernel_rfl)) z ?_)))
       have bG := p.st l z
       have bH := bG.st m z
       have bI := bH.st r z
       have bJ := bI.st t z
       have bK := bJ.st P z
       refine WL.store (v := ag [vi 0, vu 0, vu 0, vi 0, vu 0, vi 0, Value.slice none 0 0, vi 0, Value.slice none 0 0]) (cells' := [vi 0, vu 0, vu 0, vi 0, vu 0, vi 0, Value.slice none 0 0, vi 0, Value.slice none 0 0]) ty102 z z bK z (le_ z) z z ?_
       intro bL a7 bM
       refine wY (ya z) z (nl (th (rt (At.thenR (At.inBlockR (At.thenR ?_))))))
       obtain ⟨rfl, rfl⟩ := tup2 h
       have bO : Stp [13] (Lg.O0 A) w a6 bL := (tr_ (su_ e z) (tr_ (su_ d z) (tr_ (su_ c z) (tr_ (su_ l z) (tr_ (su_ m z) (tr_ (su_ r z) (tr_ (su_ t z) (tr_ (su_ P z) (su_ a7 z)))))))))
       exact At.res (.inl z) z (.cell z (bM.runAg 0 [vi 0, vu 0, vu 0, vi 0, vu 0, vi 0, Value.slice none 0 0, vi 0, Value.slice none 0 0] ty102 z z z) (.tmp z .nil)) ⟨Value.slice none 0 0, Value.slice none 0 0, z, (se_ bO z z), (Or.inl ⟨z, z⟩), (Or.inl ⟨z, z⟩)⟩
      ·refine WC.condF' z ac (sk (th (sq (rg (wY (ym z) z (wY (yb (vals := [(1, vu q)]) (cells := [vi 0, vu q, vu 0, vi 0, vu 0, vi 0, Value.slice none 0 0, vi 0, Value.slice none 0 0]) (fe_ z) (by kernel_rfl)) z ?_))))))
       have bP := p.st l z
       have bQ := bP.st m z
       have bR := bQ.st r z
       have bS := bR.st t z
       have bT := bS.st P z
       refine WL.store (v := ag [vi 0, vu q, vu 0, vi 0, vu 0, vi 0, Value.slice none 0 0, vi 0, Value.slice none 0 0]) (cells' := [vi 0, vu q, vu 0, vi 0, vu 0, vi 0, Value.slice none 0 0, vi 0, Value.slice none 0 0]) ty102 z z bT z (le_ z) z z ?_
       intro bU a8 bW
       refine wY (ya z) z (nl (th (rt (At.inBlockR (At.thenR ?_)))))
       obtain ⟨rfl, rfl⟩ := tup2 h
       have bX : Stp [13] (Lg.O0 A) w a6 bU := (tr_ (su_ e z) (tr_ (su_ d z) (tr_ (su_ c z) (tr_ (su_ l z) (tr_ (su_ m z) (tr_ (su_ r z) (tr_ (su_ t z) (tr_ (su_ P z) (su_ a8 z)))))))))
       exact At.res (.inl z) z (.cell z (bW.runAg 0 [vi 0, vu q, vu 0, vi 0, vu 0, vi 0, Value.slice none 0 0, vi 0, Value.slice none 0 0] ty102 z z z) (.tmp z .nil)) ⟨Value.slice none 0 0, Value.slice none 0 0, z, (se_ bX z z), (Or.inl ⟨z, z⟩), (Or.inl ⟨z, z⟩)⟩
  ·refine WC.condF' z ap (sq (rg (wY (Y.eql_i z z) z ?_)))
   obtain ⟨eI, bY, h⟩ := lt1 h
   refine WL.yE (ya z) (congrArg vB bY.symm) z (nl (th ?_))
   rcases cnd h with ⟨ad, h⟩ | ⟨ad, h⟩
   ·refine WC.condT' z ad (sq (rg (wY (yf fo37_8 z) z (wY (yl ty25 z z (n.cell 8 _ z)) z (wY (yf fo37_9 z) z (wY (yl ty25 z z (n.cell 9 _ z)) z (wY (yf fo102_1 z) z ?_)))))))
    have ae := Z.st c z
    refine wY (yl ty25 z z (ae.cell 1 _ z)) z (wY (yf fo102_2 z) z (wY (yl ty25 z z (ae.cell 2 _ z)) z ?_))
    obtain ⟨⟨o, j⟩, bZ, h⟩ := bnd h
    refine WL.call (vals := [vu a0.Re, vu a0.Im, vu a1.re, vu a1.im]) kok91 z z (c_num_SubPhasor bZ) ?_
    rintro eo ep ⟨rfl, b0⟩
    obtain ⟨dH, d0, d1, C⟩ := adoptE W (fun k => 1) b0
    refine wY (ym z) z (wY (yx z z) z (wY (yx z z) z (wY (ya z) z (wY (ya z) z (nl (th (sq (sq (rg ?_)))))))))
    refine wY (ym z) z (wY (ym z) z (WL.buildSlice (O := dH) (R := Rep.u) (vals := [(0, vu o), (1, vu j)]) 16 [vu o, vu j] (xs := [o, j]) (by decide) ty26 ty25 (by decide) (by decide) (fe_ z) (by kernel_rfl) z ⟨[vu o], [vu j], z, z, ⟨[vu j], [], z, z, z⟩⟩ z ?_))
    intro dI dJ er D b1
    obtain ⟨eJ, b2, h⟩ := bnd h
    refine WL.call (vals := [dI]) kok90 z z (c_todelta_finite (A := fun _ => True) (b1.src.sl) b2) ?_
    rintro es b3 ⟨rfl, b4⟩
    obtain ⟨aw, d2, d3, E⟩ := adoptE dJ (fun k => 1) b4
    refine wY (Y.not z) z (wY (ym z) z ?_)
    obtain ⟨dK, h, b5⟩ := bnd h
    refine WL.cut 11 (σ := (Bool × Own)) (fun x w' => x.1 = dK ∧ Stp [] aw b3 x.2 w') (fun x => [(4, pt T 0), (8, vu o), (9, vu j), (104, vB x.1)]) ?_ ?_
    ·rcases cnd h with ⟨af, h⟩ | ⟨af, h⟩
     ·refine WL.ren 93 z (congrArg vB af) (ug z z (wY (yf fo37_8 z) z (ug z z ?_)))
      have b6 := n.st C z
      have b7 := b6.st D z
      have aA := b7.st E z
      refine wY (yl ty25 z z (aA.cell 8 _ z)) z (ug z z (wY (yf fo37_9 z) z (ug z z (wY (yl ty25 z z (aA.cell 9 _ z)) z (ug z z (wY (yf fo102_1 z) z (ug z z ?_)))))))
      have b8 := ae.st C z
      have b9 := b8.st D z
      have aC := b9.st E z
      refine wY (yl ty25 z z (aC.cell 1 _ z)) z (ug z z (wY (yf fo102_2 z) z (ug z z (wY (yl ty25 z z (aC.cell 2 _ z)) z (ug z z (WL.buildSlice (O := aw) (R := Rep.u) (vals := [(0, vu a0.Re), (1, vu a0.Im), (2, vu a1.re), (3, vu a1.im)]) 17 [vu a0.Re, vu a0.Im, vu a1.re, vu a1.im] (xs := [a0.Re, a0.Im, a1.re, a1.im]) (by decide) ty26 ty25 (by decide) (by decide) (fe_ z) (by kernel_rfl) z ⟨[vu a0.Re], [vu a0.Im, vu a1.re, vu a1.im], z, z, ⟨[vu a0.Im], [vu a1.re, vu a1.im], z, z, ⟨[vu a1.re], [vu a1.im], z, z, ⟨[vu a1.im], [], z, z, z⟩⟩⟩⟩ z ?_))))))
      intro dL dM et a9 ca
      refine ug z z ?_
      obtain ⟨dN, cb, h⟩ := bnd h
      refine WL.call (vals := [dL]) kok90 z z (c_todelta_finite (A := fun _ => True) (ca.src.sl) cb) ?_
      rintro eu ew ⟨rfl, cc⟩
      obtain ⟨dO, d4, d5, ba⟩ := adoptE dM (fun k => 1) cc
      refine wY (Y.pick (b := true) z z) z ?_
      exact nl (At.join (σ := (Bool × Own)) (dN, dO) ⟨some1 h, (tr_ (su_ a9 z) (su_ ba z))⟩ (.cons z (.cons z (.cons z (.cons z .nil)))))
     ·refine WL.ren 93 z (congrArg vB af) (WL.gS z z z z (WL.gS z z z z (WL.gS z z z z (WL.gS z z z z (WL.gS z z z z (WL.gS z z z z (WL.gS z z z z (WL.gS z z z z (WL.gS z z z z ?_)))))))))
      refine WL.gS z z z z (wY (Y.pick (b := false) z z) z ?_)
      exact nl (At.join (σ := (Bool × Own)) (false, aw) ⟨some1 h, (sr_ _ _ _)⟩ (.cons z (.cons z (.cons z (.cons z .nil)))))
    ·rintro ⟨dP, bb⟩ ex ⟨rfl, Q⟩
     replace h := b5
     try dsimp only at h Q
     refine (show WL _ _ _ _ _ [(4, pt T 0), (8, vu o), (9, vu j), (104, vB dP)] _ from ?_)
     refine nl (th ?_)
     rcases cnd h with ⟨ah, h⟩ | ⟨ah, h⟩
     ·refine WC.condT' z ah (sq (rg (wY (yb (vals := []) (cells := [vi 0, vu 0, vu 0, vi 0, vu 0, vi 0, Value.slice none 0 0, vi 0, Value.slice none 0 0]) (fe_ z) (by kernel_rfl)) z ?_)))
      have cd := p.st C z
      have ce := cd.st D z
      have cf := ce.st E z
      have cg := cf.st Q z
      refine WL.store (v := ag [vi 0, vu 0, vu 0, vi 0, vu 0, vi 0, Value.slice none 0 0, vi 0, Value.slice none 0 0]) (cells' := [vi 0, vu 0, vu 0, vi 0, vu 0, vi 0, Value.slice none 0 0, vi 0, Value.slice none 0 0]) ty102 z z cg z (le_ z) z z ?_
      intro ch bc ci
      refine wY (ya z) z (nl (th (rt (At.thenR (At.inBlockR (At.thenR ?_))))))
      obtain ⟨rfl, rfl⟩ := tup2 h
      have cj : Stp [13] (Lg.O0 A) w bb ch := (tr_ (su_ e z) (tr_ (su_ d z) (tr_ (su_ c z) (tr_ (su_ C z) (tr_ (su_ D z) (tr_ (su_ E z) (tr_ (su_ Q z) (su_ bc z))))))))
      exact At.res (.inl z) z (.cell z (ci.runAg 0 [vi 0, vu 0, vu 0, vi 0, vu 0, vi 0, Value.slice none 0 0, vi 0, Value.slice none 0 0] ty102 z z z) (.tmp z .nil)) ⟨Value.slice none 0 0, Value.slice none 0 0, z, (se_ cj z z), (Or.inl ⟨z, z⟩), (Or.inl ⟨z, z⟩)⟩
     ·refine WC.condF' z ah (sk (th (sq (rg (wY (ym z) z (wY (ym z) z (wY (yb (vals := [(1, vu o), (2, vu j)]) (cells := [vi 0, vu o, vu j, vi 0, vu 0, vi 0, Value.slice none 0 0, vi 0, Value.slice none 0 0]) (fe_ z) (by kernel_rfl)) z ?_)))))))
      have ck := p.st C z
      have cl := ck.st D z
      have cm := cl.st E z
      have cn := cm.st Q z
      refine WL.store (v := ag [vi 0, vu o, vu j, vi 0, vu 0, vi 0, Value.slice none 0 0, vi 0, Value.slice none 0 0]) (cells' := [vi 0, vu o, vu j, vi 0, vu 0, vi 0, Value.slice none 0 0, vi 0, Value.slice none 0 0]) ty102 z z cn z (le_ z) z z ?_
      intro co bd cp
      refine wY (ya z) z (nl (th (rt (At.inBlockR (At.thenR ?_)))))
      obtain ⟨rfl, rfl⟩ := tup2 h
      have cq : Stp [13] (Lg.O0 A) w bb co := (tr_ (su_ e z) (tr_ (su_ d z) (tr_ (su_ c z) (tr_ (su_ C z) (tr_ (su_ D z) (tr_ (su_ E z) (tr_ (su_ Q z) (su_ bd z))))))))
      exact At.res (.inl z) z (.cell z (cp.runAg 0 [vi 0, vu o, vu j, vi 0, vu 0, vi 0, Value.slice none 0 0, vi 0, Value.slice none 0 0] ty102 z z z) (.tmp z .nil)) ⟨Value.slice none 0 0, Value.slice none 0 0, z, (se_ cq z z), (Or.inl ⟨z, z⟩), (Or.inl ⟨z, z⟩)⟩
   ·refine WC.condF' z ad (sk (At.inBlock (th (sq (rg (wY (yf fo37_10 z) z (wY (yL ty30 z z (n.cells 10 [vi a0.Hist.Scale, vu a0.Hist.Zero, vi a0.Hist.Pos.Offset, (Value.slice aK aL aM), vi a0.Hist.Neg.Offset, (Value.slice aN aO aP)] z) z) z (wY (yf fo102_3 z) z ?_))))))))
    have cr := Z.st c z
    refine wY (yL ty30 z z (cr.cells 3 [vi a1.h.Scale, vu a1.h.Zero, vi a1.h.Pos.Offset, (Value.slice aR aS aT), vi a1.h.Neg.Offset, (Value.slice aW aX aY)] z) z) z ?_
    have cs := aI.i e z z
    have ct := cs.i d z z
    have cu := ct.i c z z
    have cv := aJ.i e z z
    have cw := cv.i d z z
    have cx := cw.i c z z
    have cy := aQ.i d z z
    have cz := cy.i c z z
    have cA := aU.i d z z
    have cC := cA.i c z z
    obtain ⟨⟨a, eK⟩, cD, h⟩ := bnd h
    refine WL.call (vals := [ag [vi a0.Hist.Scale, vu a0.Hist.Zero, vi a0.Hist.Pos.Offset, (Value.slice aK aL aM), vi a0.Hist.Neg.Offset, (Value.slice aN aO aP)], ag [vi a1.h.Scale, vu a1.h.Zero, vi a1.h.Pos.Offset, (Value.slice aR aS aT), vi a1.h.Neg.Offset, (Value.slice aW aX aY)]]) kok92 z z (c_fold_Sub (A := fun _ => True) (a0 := a0.Hist) (a1 := a1.h) (Sl.all cu) (Sl.all cx) (Sl.all cz) (Sl.all cC) cD) ?_
    rintro ey aD ⟨dQ, dR, rfl, cE, dS, dT⟩
    obtain ⟨ax, d6, X, S⟩ := adoptE W (fun k => 1) cE
    have cF : Sl Rep.u aD (frs ax) dQ a.Pos.Counts := Sl.adoptF dS (fun k hk => ⟨hk, z⟩) X
    have cG : Sl Rep.u aD (frs ax) dR a.Neg.Counts := Sl.adoptF dT (fun k hk => ⟨hk, z⟩) X
    refine wY (ym z) z (wY (yx z z) z (wY (yx z z) z (WL.alloc (O := ax) 18 [vi 0, vu 0, vi 0, Value.slice none 0 0, vi 0, Value.slice none 0 0] ty30 z z ?_)))
    intro eL bf ez F cH
    have aE := cF.f F z
    have cI := h
    obtain ⟨H, I, J, rfl⟩ := aE.shape
    have h := cI
    have aF := cG.f F z
    have cJ := h
    obtain ⟨K, L, M, rfl⟩ := aF.shape
    have h := cJ
    refine WL.store (v := ag [vi a.Scale, vu a.Zero, vi a.Pos.Offset, (Value.slice H I J), vi a.Neg.Offset, (Value.slice K L M)]) (cells' := [vi a.Scale, vu a.Zero, vi a.Pos.Offset, (Value.slice H I J), vi a.Neg.Offset, (Value.slice K L M)]) ty30 z z cH z (le_ z) z z ?_
    intro eA G cK
    refine wY (ya z) z (nl (th (sq (sq (rg (wY (ym z) z (wY (Y.neq_i z z) z (nl (th ?_)))))))))
    rcases cnd h with ⟨ai, h⟩ | ⟨ai, h⟩
    ·refine WC.condT' z ai (sq (rg (wY (yb (vals := []) (cells := [vi 0, vu 0, vu 0, vi 0, vu 0, vi 0, Value.slice none 0 0, vi 0, Value.slice none 0 0]) (fe_ z) (by kernel_rfl)) z ?_)))
     have cL := p.st S z
     have cM := cL.st F z
     have cN := cM.st G z
     refine WL.store (v := ag [vi 0, vu 0, vu 0, vi 0, vu 0, vi 0, Value.slice none 0 0, vi 0, Value.slice none 0 0]) (cells' := [vi 0, vu 0, vu 0, vi 0, vu 0, vi 0, Value.slice none 0 0, vi 0, Value.slice none 0 0]) ty102 z z cN z (le_ z) z z ?_
     intro cO bg cP
     refine wY (ya z) z (nl (th (rt (At.thenR ?_))))
     obtain ⟨rfl, rfl⟩ := tup2 h
     have cQ : Stp [13, 18] (Lg.O0 A) w bf cO := (tr_ (su_ e z) (tr_ (su_ d z) (tr_ (su_ c z) (tr_ (su_ S z) (tr_ (su_ F z) (tr_ (su_ G z) (su_ bg z)))))))
     exact At.res (.inl z) z (.cell z (cP.runAg 0 [vi 0, vu 0, vu 0, vi 0, vu 0, vi 0, Value.slice none 0 0, vi 0, Value.slice none 0 0] ty102 z z z) (.tmp z .nil)) ⟨Value.slice none 0 0, Value.slice none 0 0, z, (se_ cQ z z), (Or.inl ⟨z, z⟩), (Or.inl ⟨z, z⟩)⟩
    ·refine WC.condF' z ai (sk (th (sq (rg (wY (yL ty30 z z (cK.cells 0 [vi a.Scale, vu a.Zero, vi a.Pos.Offset, (Value.slice H I J), vi a.Neg.Offset, (Value.slice K L M)] z) z) z (wY (yb (vals := [(3, ag [vi a.Scale, vu a.Zero, vi a.Pos.Offset, (Value.slice H I J), vi a.Neg.Offset, (Value.slice K L M)])]) (cells := [vi 0, vu 0, vu 0, vi a.Scale, vu a.Zero, vi a.Pos.Offset, (Value.slice H I J), vi a.Neg.Offset, (Value.slice K L M)]) (fe_ z) (by kernel_rfl)) z ?_))))))
     have cR := p.st S z
     have cS := cR.st F z
     have cT := cS.st G z
     refine WL.store (v := ag [vi 0, vu 0, vu 0, vi a.Scale, vu a.Zero, vi a.Pos.Offset, (Value.slice H I J), vi a.Neg.Offset, (Value.slice K L M)]) (cells' := [vi 0, vu 0, vu 0, vi a.Scale, vu a.Zero, vi a.Pos.Offset, (Value.slice H I J), vi a.Neg.Offset, (Value.slice K L M)]) ty102 z z cT z (le_ z) z z ?_
     intro cU V cV
     refine wY (ya z) z (nl (th (rt ?_)))
     obtain ⟨rfl, rfl⟩ := tup2 h
     have aj : Stp [13, 18] (Lg.O0 A) w bf cU := (tr_ (su_ e z) (tr_ (su_ d z) (tr_ (su_ c z) (tr_ (su_ S z) (tr_ (su_ F z) (tr_ (su_ G z) (su_ V z)))))))
     have cW := aE.f G z
     have cX := cW.f V z
     have cY := aF.f G z
     have cZ := cY.f V z
     exact At.res (.inl z) z (.cell z (cV.runAg 0 [vi 0, vu 0, vu 0, vi a.Scale, vu a.Zero, vi a.Pos.Offset, (Value.slice H I J), vi a.Neg.Offset, (Value.slice K L M)] ty102 z z z) (.tmp z .nil)) ⟨(Value.slice H I J), (Value.slice K L M), z, (se_ aj z z), (Sl.outF cX aj low0), (Sl.outF cZ aj low0)⟩
theorem c_todelta_Next {A : Nat → Prop} {v0_9 : Value} {v0_11 : Value} {a0 : api_State} {v1_1 : Value} {v1_13 : Value} {v1_15 : Value} {a1 : api_Point} {a2 : Int} {w : World} (hs0_9 : Sl Rep.u w A v0_9 a0.Hist.Pos.Counts) (hs0_11 : Sl Rep.u w A v0_11 a0.Hist.Neg.Counts) (hs1_1 : Sl rep_api_Pair w A v1_1 a1.Attrs) (hs1_13 : Sl Rep.u w A v1_13 a1.Hist.Pos.Counts) (hs1_15 : Sl Rep.u w A v1_15 a1.Hist.Neg.Counts) {r0 : api_State} {r1 : api_Point} {r2 : Int} (h : todelta_Next a0 a1 a2 = some (r0, r1, r2)) : Rets Try.prog 33 [ag [vB a0.Some, vi a0.Start, vi a0.Time, vi a0.Int_, vu a0.Re, vu a0.Im, vi a0.Hist.Scale, vu a0.Hist.Zero, vi a0.Hist.Pos.Offset, v0_9, vi a0.Hist.Neg.Offset, v0_11], ag [vs a1.Name, v1_1, vi a1.Kind, vi a1.Temp, vB a1.Mono, vi a1.Start, vi a1.Time, vi a1.Int_, vu a1.Re, vu a1.Im, vi a1.Hist.Scale, vu a1.Hist.Zero, vi a1.Hist.Pos.Offset, v1_13, vi a1.Hist.Neg.Offset, v1_15, vi a1.Flags], vi a2] w (fun v w' => ∃ (d0 : Value) (dh : Value) (d1 : Value) (di : Value) (dj : Value), v = Value.tuple (List.toArray [ag [vB r0.Some, vi r0.Start, vi r0.Time, vi r0.Int_, vu r0.Re, vu r0.Im, vi r0.Hist.Scale, vu r0.Hist.Zero, vi r0.Hist.Pos.Offset, d0, vi r0.Hist.Neg.Offset, dh], ag [vs r1.Name, d1, vi r1.Kind, vi r1.Temp, vB r1.Mono, vi r1.Start, vi r1.Time, vi r1.Int_, vu r1.Re, vu r1.Im, vi r1.Hist.Scale, vu r1.Hist.Zero, vi r1.Hist.Pos.Offset, di, vi r1.Hist.Neg.Offset, dj, vi r1.Flags], vi r2]) ∧ Ext w w' ∧ Sl Rep.u w' (fun k => w.heap.size ≤ k) d0 r0.Hist.Pos.Counts ∧ Sl Rep.u w' (fun k => w.heap.size ≤ k) dh r0.Hist.Neg.Counts ∧ Sl rep_api_Pair w' (fun k => w.heap.size ≤ k) d1 r1.Attrs ∧ Sl Rep.u w' (fun k => w.heap.size ≤ k) di r1.Hist.Pos.Counts ∧ Sl Rep.u w' (fun k => w.heap.size ≤ k) dj r1.Hist.Neg.Counts) := by
 unfold todelta_Next at h
 refine Rets.enter Try.func33 z z ?_
 have cF : Sl Rep.u w (imm (Lg.O0 A)) v0_9 a0.Hist.Pos.Counts := (Sl.start hs0_9)
 have cG : Sl Rep.u w (imm (Lg.O0 A)) v0_11 a0.Hist.Neg.Counts := (Sl.start hs0_11)
 have o9 : Sl rep_api_Pair w (imm (Lg.O0 A)) v1_1 a1.Attrs := (Sl.start hs1_1)
 have pa : Sl Rep.u w (imm (Lg.O0 A)) v1_13 a1.Hist.Pos.Counts := (Sl.start hs1_13)
 have pb : Sl Rep.u w (imm (Lg.O0 A)) v1_15 a1.Hist.Neg.Counts := (Sl.start hs1_15)
 refine (show WC _ _ _ _ [(0, ag [vB a0.Some, vi a0.Start, vi a0.Time, vi a0.Int_, vu a0.Re, vu a0.Im, vi a0.Hist.Scale, vu a0.Hist.Zero, vi a0.Hist.Pos.Offset, v0_9, vi a0.Hist.Neg.Offset, v0_11]), (1, ag [vs a1.Name, v1_1, vi a1.Kind, vi a1.Temp, vB a1.Mono, vi a1.Start, vi a1.Time, vi a1.Int_, vu a1.Re, vu a1.Im, vi a1.Hist.Scale, vu a1.Hist.Zero, vi a1.Hist.Pos.Offset, v1_13, vi a1.Hist.Neg.Offset, v1_15, vi a1.Flags]), (2, vi a2)] _ from ?_)
 refine sq (rg ?_)
 have pc := h
 obtain ⟨aQ, aR, aS, rfl⟩ := cF.shape
 have h := pc
 have pd := h
 obtain ⟨aT, aU, aW, rfl⟩ := cG.shape
 have h := pd
 refine WL.box (O := (Lg.O0 A)) 11 [vB a0.Some, vi a0.Start, vi a0.Time, vi a0.Int_, vu a0.Re, vu a0.Im, vi a0.Hist.Scale, vu a0.Hist.Zero, vi a0.Hist.Pos.Offset, (Value.slice aQ aR aS), vi a0.Hist.Neg.Offset, (Value.slice aT aU aW)] z z z ?_
 intro bX qy rA aq d2
 have d3 := o9.i aq z z
 have pe := h
 obtain ⟨ay, az, aA, rfl⟩ := d3.shape
 have h := pe
 have d4 := pa.i aq z z
 have pf := h
 obtain ⟨bb, bc, bd, rfl⟩ := d4.shape
 have h := pf
 have d5 := pb.i aq z z
 have pg := h
 obtain ⟨bf, bg, bh, rfl⟩ := d5.shape
 have h := pg
 refine WL.box (O := qy) 12 [vs a1.Name, (Value.slice ay az aA), vi a1.Kind, vi a1.Temp, vB a1.Mono, vi a1.Start, vi a1.Time, vi a1.Int_, vu a1.Re, vu a1.Im, vi a1.Hist.Scale, vu a1.Hist.Zero, vi a1.Hist.Pos.Offset, (Value.slice bb bc bd), vi a1.Hist.Neg.Offset, (Value.slice bf bg bh), vi a1.Flags] z z z ?_
 intro bO qz rD ac ph
 refine WL.alloc (O := qz) 13 [vB false, vi 0, vi 0, vi 0, vu 0, vu 0, vi 0, vu 0, vi 0, Value.slice none 0 0, vi 0, Value.slice none 0 0] ty32 z z ?_
 intro bs qA rE V cH
 refine WL.alloc (O := qA) 14 [vs [], Value.slice none 0 0, vi 0, vi 0, vB false, vi 0, vi 0, vi 0, vu 0, vu 0, vi 0, vu 0, vi 0, Value.slice none 0 0, vi 0, Value.slice none 0 0, vi 0] ty37 z z ?_
 intro bt qB rF T cI
 refine wY (ya z) z (nl (th (sq (rg ?_))))
 have pi := ph.st V z
 have cJ := pi.st T z
 refine wY (yL ty37 z z (cJ.cells 0 [vs a1.Name, (Value.slice ay az aA), vi a1.Kind, vi a1.Temp, vB a1.Mono, vi a1.Start, vi a1.Time, vi a1.Int_, vu a1.Re, vu a1.Im, vi a1.Hist.Scale, vu a1.Hist.Zero, vi a1.Hist.Pos.Offset, (Value.slice bb bc bd), vi a1.Hist.Neg.Offset, (Value.slice bf bg bh), vi a1.Flags] z) z) z ?_
 have pj := d3.i ac z z
 have pk := pj.i V z z
 have cK := pk.i T z z
 have pl := d4.i ac z z
 have pm := pl.i V z z
 have bp := pm.i T z z
 have pn := d5.i ac z z
 have po := pn.i V z z
 have bq := po.i T z z
 obtain ⟨o7, pp, h⟩ := bnd h
 refine WL.call (vals := [ag [vs a1.Name, (Value.slice ay az aA), vi a1.Kind, vi a1.Temp, vB a1.Mono, vi a1.Start, vi a1.Time, vi a1.Int_, vu a1.Re, vu a1.Im, vi a1.Hist.Scale, vu a1.Hist.Zero, vi a1.Hist.Pos.Offset, (Value.slice bb bc bd), vi a1.Hist.Neg.Offset, (Value.slice bf bg bh), vi a1.Flags]]) kok14 z z (c_point_Check (A := fun _ => True) (a0 := a1) (Sl.all cK) (Sl.all bp) (Sl.all bq) pp) ?_
 rintro rG pq ⟨rfl, pr⟩
 obtain ⟨bY, qC, qD, r⟩ := adoptE qB (fun k => 1) pr
 refine wY (ya z) z (nl (th (sq ?_)))
 obtain ⟨qE, h, ps⟩ := bnd h
 refine WC.join (σ := (Int × UInt64 × Int × List UInt64 × Int × List UInt64 × Int × Own × Value × Value)) (fun x w' => (x.1, x.2.1, x.2.2.1, x.2.2.2.1, x.2.2.2.2.1, x.2.2.2.2.2.1, x.2.2.2.2.2.2.1) = qE ∧ Stp [12] bY pq x.2.2.2.2.2.2.2.1 w' ∧ Sl Rep.u w' (imm x.2.2.2.2.2.2.2.1) x.2.2.2.2.2.2.2.2.1 x.2.2.2.1 ∧ Sl Rep.u w' (imm x.2.2.2.2.2.2.2.1) x.2.2.2.2.2.2.2.2.2 x.2.2.2.2.2.1 ∧ Blk 12 x.2.2.2.2.2.2.2.1 w' bO 37 [vs a1.Name, (Value.slice ay az aA), vi a1.Kind, vi a1.Temp, vB a1.Mono, vi a1.Start, vi a1.Time, vi a1.Int_, vu a1.Re, vu a1.Im, vi x.1, vu x.2.1, vi x.2.2.1, x.2.2.2.2.2.2.2.2.1, vi x.2.2.2.2.1, x.2.2.2.2.2.2.2.2.2, vi a1.Flags]) (fun x => [(3, pt bX 0), (4, pt bO 0), (6, pt bs 0), (7, pt bt 0), (9, vi x.2.2.2.2.2.2.1)]) ?_ ?_
 ·refine WC.block (sq (rg (wY (ym z) z (wY (Y.neq_i z z) z ?_))))
  obtain ⟨r7, pu, h⟩ := lt1 h
  refine WL.yE (ya z) (congrArg vB pu.symm) z (nl (th ?_))
  rcases cnd h with ⟨cL, h⟩ | ⟨cL, h⟩
  ·refine WC.condT' z cL (sk (At.inBlock ?_))
   have pw := bp.i r z z
   have px := bq.i r z z
   have f6 := cJ.st r z
   exact At.join (σ := (Int × UInt64 × Int × List UInt64 × Int × List UInt64 × Int × Own × Value × Value)) (a1.Hist.Scale, a1.Hist.Zero, a1.Hist.Pos.Offset, a1.Hist.Pos.Counts, a1.Hist.Neg.Offset, a1.Hist.Neg.Counts, o7, bY, (Value.slice bb bc bd), (Value.slice bf bg bh)) ⟨some1 h, (sr_ _ _ _), pw, px, f6⟩ (.cons z (.cons z (.cons z (.cons z (.cons z .nil)))))
  ·refine WC.condF' z cL (sq (rg (wY (yf fo37_3 z) z ?_)))
   have aw := cJ.st r z
   refine wY (yl ty3 z z (aw.cell 3 _ z)) z (wY (Y.neq_i z z) z ?_)
   obtain ⟨rH, f7, h⟩ := lt1 h
   refine WL.yE (ya z) (congrArg vB f7.symm) z (nl (th ?_))
   rcases cnd h with ⟨b3, h⟩ | ⟨b3, h⟩
   ·refine WC.condT' z b3 (rg (wY (ya z) z (nl (At.inBlock ?_))))
    have f8 := bp.i r z z
    have f9 := bq.i r z z
    exact At.join (σ := (Int × UInt64 × Int × List UInt64 × Int × List UInt64 × Int × Own × Value × Value)) (a1.Hist.Scale, a1.Hist.Zero, a1.Hist.Pos.Offset, a1.Hist.Pos.Counts, a1.Hist.Neg.Offset, a1.Hist.Neg.Counts, 14, bY, (Value.slice bb bc bd), (Value.slice bf bg bh)) ⟨some1 h, (sr_ _ _ _), f8, f9, aw⟩ (.cons z (.cons z (.cons z (.cons z (.cons z .nil)))))
   ·refine WC.condF' z b3 (sq (rg (wY (yf fo37_11 z) z (wY (yl ty3 z z (aw.cell 16 _ z)) z (wY (Y.neq_i z z) z ?_)))))
    obtain ⟨rI, ga, h⟩ := lt1 h
    refine WL.yE (ya z) (congrArg vB ga.symm) z (nl (th ?_))
    rcases cnd h with ⟨b4, h⟩ | ⟨b4, h⟩
    ·refine WC.condT' z b4 (rg (wY (ya z) z (nl (At.inBlock ?_))))
     have gb := bp.i r z z
     have gc := bq.i r z z
     exact At.join (σ := (Int × UInt64 × Int × List UInt64 × Int × List UInt64 × Int × Own × Value × Value)) (a1.Hist.Scale, a1.Hist.Zero, a1.Hist.Pos.Offset, a1.Hist.Pos.Counts, a1.Hist.Neg.Offset, a1.Hist.Neg.Counts, 3, bY, (Value.slice bb bc bd), (Value.slice bf bg bh)) ⟨some1 h, (sr_ _ _ _), gb, gc, aw⟩ (.cons z (.cons z (.cons z (.cons z (.cons z .nil)))))
    ·refine WC.condF' z b4 (sq (rg (wY (yf fo37_2 z) z (wY (yl ty3 z z (aw.cell 2 _ z)) z (wY (Y.eql_i z z) z ?_)))))
     obtain ⟨rJ, gd, h⟩ := lt1 h
     refine WL.yE (ya z) (congrArg vB gd.symm) z (nl (th ?_))
     rcases cnd h with ⟨b5, h⟩ | ⟨b5, h⟩
     ·refine WC.condT' z b5 (rg (wY (yf fo37_10 z) z (wY (yL ty30 z z (aw.cells 10 [vi a1.Hist.Scale, vu a1.Hist.Zero, vi a1.Hist.Pos.Offset, (Value.slice bb bc bd), vi a1.Hist.Neg.Offset, (Value.slice bf bg bh)] z) z) z (wY (ym z) z ?_))))
      have ge := bp.i r z z
      have gf := bq.i r z z
      obtain ⟨⟨W, py⟩, gg, h⟩ := bnd h
      refine WL.call (vals := [ag [vi a1.Hist.Scale, vu a1.Hist.Zero, vi a1.Hist.Pos.Offset, (Value.slice bb bc bd), vi a1.Hist.Neg.Offset, (Value.slice bf bg bh)], vi a2]) kok43 z z (c_hist_Fit (A := fun _ => True) (a0 := a1.Hist) (Sl.all ge) (Sl.all gf) gg) ?_
      rintro qJ dk ⟨pz, pA, rfl, gh, pB, pC⟩
      obtain ⟨cM, qo, bZ, cw⟩ := adoptE bY (fun k => 1) gh
      have dl : Sl Rep.u dk (frs cM) pz W.Pos.Counts := Sl.adoptF pB (fun k hk => ⟨hk, z⟩) bZ
      have dm : Sl Rep.u dk (frs cM) pA W.Neg.Counts := Sl.adoptF pC (fun k hk => ⟨hk, z⟩) bZ
      refine wY (ym z) z (wY (yx z z) z (wY (yx z z) z (wY (yf fo37_10 z) z ?_)))
      have gi := h
      obtain ⟨cN, cO, cP, rfl⟩ := dl.shape
      have h := gi
      have gj := h
      obtain ⟨cQ, cR, cS, rfl⟩ := dm.shape
      have h := gj
      have gk := aw.st cw z
      refine WL.store (v := ag [vi W.Scale, vu W.Zero, vi W.Pos.Offset, (Value.slice cN cO cP), vi W.Neg.Offset, (Value.slice cQ cR cS)]) (cells' := [vs a1.Name, (Value.slice ay az aA), vi a1.Kind, vi a1.Temp, vB a1.Mono, vi a1.Start, vi a1.Time, vi a1.Int_, vu a1.Re, vu a1.Im, vi W.Scale, vu W.Zero, vi W.Pos.Offset, (Value.slice cN cO cP), vi W.Neg.Offset, (Value.slice cQ cR cS), vi a1.Flags]) ty30 z z gk z (le_ z) z z ?_
      intro qK bP gl
      refine wY (ya z) z (nl (At.inBlock ?_))
      have gm := dl.f bP z
      have gn := dm.f bP z
      exact At.join (σ := (Int × UInt64 × Int × List UInt64 × Int × List UInt64 × Int × Own × Value × Value)) (W.Scale, W.Zero, W.Pos.Offset, W.Pos.Counts, W.Neg.Offset, W.Neg.Counts, py, cM, (Value.slice cN cO cP), (Value.slice cQ cR cS)) ⟨some1 h, (tr_ (su_ cw z) (su_ bP z)), (Sl.mono gm frs_imm), (Sl.mono gn frs_imm), gl⟩ (.cons z (.cons z (.cons z (.cons z (.cons z .nil)))))
     ·refine WC.condF' z b5 (sk (At.inBlock ?_))
      have gp := bp.i r z z
      have gq := bq.i r z z
      exact At.join (σ := (Int × UInt64 × Int × List UInt64 × Int × List UInt64 × Int × Own × Value × Value)) (a1.Hist.Scale, a1.Hist.Zero, a1.Hist.Pos.Offset, a1.Hist.Pos.Counts, a1.Hist.Neg.Offset, a1.Hist.Neg.Counts, o7, bY, (Value.slice bb bc bd), (Value.slice bf bg bh)) ⟨some1 h, (sr_ _ _ _), gp, gq, aw⟩ (.cons z (.cons z (.cons z (.cons z (.cons z .nil)))))
 ·rintro ⟨ak, al, am, bQ, an, bR, o8, d6, aC, aD⟩ pD ⟨rfl, M, cT, cU, cV⟩
  replace h := ps
  try dsimp only at h M cT cU cV
  refine (show At _ _ _ [(3, pt bX 0), (4, pt bO 0), (6, pt bs 0), (7, pt bt 0), (9, vi o8)] _ from ?_)
  refine th (sq ?_)
  obtain ⟨pE, h, gr⟩ := bnd h
  refine WC.join (σ := (Int × Own)) (fun x w' => x.1 = pE ∧ Stp [] d6 pD x.2 w') (fun x => [(3, pt bX 0), (4, pt bO 0), (6, pt bs 0), (7, pt bt 0), (9, vi x.1)]) ?_ ?_
  ·refine sq (rg (wY (ym z) z (wY (Y.eql_i z z) z (nl (th ?_)))))
   rcases cnd h with ⟨b6, h⟩ | ⟨b6, h⟩
   ·refine WC.condT' z b6 (rg ?_)
    have gs := d2.st ac z
    have gt := gs.st V z
    have gu := gt.st T z
    have gw := gu.st r z
    have gz := gw.st M z
    refine wY (yL ty32 z z (gz.cells 0 [vB a0.Some, vi a0.Start, vi a0.Time, vi a0.Int_, vu a0.Re, vu a0.Im, vi a0.Hist.Scale, vu a0.Hist.Zero, vi a0.Hist.Pos.Offset, (Value.slice aQ aR aS), vi a0.Hist.Neg.Offset, (Value.slice aT aU aW)] z) z) z (wY (yL ty37 z z (cV.cells 0 [vs a1.Name, (Value.slice ay az aA), vi a1.Kind, vi a1.Temp, vB a1.Mono, vi a1.Start, vi a1.Time, vi a1.Int_, vu a1.Re, vu a1.Im, vi ak, vu al, vi am, aC, vi an, aD, vi a1.Flags] z) z) z ?_)
    have gB := cF.i aq z z
    have gC := gB.i ac z z
    have gE := gC.i V z z
    have gG := gE.i T z z
    have gH := gG.i r z z
    have gI := gH.i M z z
    have gJ := cG.i aq z z
    have gK := gJ.i ac z z
    have gL := gK.i V z z
    have gM := gL.i T z z
    have gO := gM.i r z z
    have gP := gO.i M z z
    have gQ := cK.i r z z
    have gR := gQ.i M z z
    obtain ⟨pF, gU, h⟩ := bnd h
    refine WL.call (vals := [ag [vB a0.Some, vi a0.Start, vi a0.Time, vi a0.Int_, vu a0.Re, vu a0.Im, vi a0.Hist.Scale, vu a0.Hist.Zero, vi a0.Hist.Pos.Offset, (Value.slice aQ aR aS), vi a0.Hist.Neg.Offset, (Value.slice aT aU aW)], ag [vs a1.Name, (Value.slice ay az aA), vi a1.Kind, vi a1.Temp, vB a1.Mono, vi a1.Start, vi a1.Time, vi a1.Int_, vu a1.Re, vu a1.Im, vi ak, vu al, vi am, aC, vi an, aD, vi a1.Flags]]) kok63 z z (c_todelta_check (A := fun _ => True) (a0 := a0) (a1 := (api_Point.mk a1.Name a1.Attrs a1.Kind a1.Temp a1.Mono a1.Start a1.Time a1.Int_ a1.Re a1.Im (api_Hist.mk ak al (api_Side.mk am bQ) (api_Side.mk an bR)) a1.Flags)) (Sl.all gI) (Sl.all gP) (Sl.all gR) (Sl.all cT) (Sl.all cU) gU) ?_
    rintro qL qM ⟨rfl, gV⟩
    obtain ⟨pG, qp, qq, d7⟩ := adoptE d6 (fun k => 1) gV
    refine wY (ya z) z (nl ?_)
    exact At.join (σ := (Int × Own)) (pF, pG) ⟨some1 h, (su_ d7 z)⟩ (.cons z (.cons z (.cons z (.cons z (.cons z .nil)))))
   ·refine WC.condF' z b6 (sk ?_)
    exact At.join (σ := (Int × Own)) (o8, d6) ⟨some1 h, (sr_ _ _ _)⟩ (.cons z (.cons z (.cons z (.cons z (.cons z .nil)))))
  ·rintro ⟨pH, d8⟩ qN ⟨rfl, H⟩
   replace h := gr
   try dsimp only at h H
   refine (show At _ _ _ [(3, pt bX 0), (4, pt bO 0), (6, pt bs 0), (7, pt bt 0), (9, vi pH)] _ from ?_)
   refine th (sq (sq (rg (wY (ym z) z (wY (Y.neq_i z z) z (nl (th ?_)))))))
   rcases cnd h with ⟨b7, h⟩ | ⟨b7, h⟩
   ·refine WC.condT' z b7 (sq (rg (wY (yb (vals := []) (cells := [vB false, vi 0, vi 0, vi 0, vu 0, vu 0, vi 0, vu 0, vi 0, Value.slice none 0 0, vi 0, Value.slice none 0 0]) (fe_ z) (by kernel_rfl)) z (wY (yb (vals := []) (cells := [vs [], Value.slice none 0 0, vi 0, vi 0, vB false, vi 0, vi 0, vi 0, vu 0, vu 0, vi 0, vu 0, vi 0, Value.slice none 0 0, vi 0, Value.slice none 0 0, vi 0]) (fe_ z) (by kernel_rfl)) z (wY (ym z) z ?_)))))
    have gW := cH.st T z
    have gX := gW.st r z
    have gY := gX.st M z
    have gZ := gY.st H z
    refine WL.store (v := ag [vB false, vi 0, vi 0, vi 0, vu 0, vu 0, vi 0, vu 0, vi 0, Value.slice none 0 0, vi 0, Value.slice none 0 0]) (cells' := [vB false, vi 0, vi 0, vi 0, vu 0, vu 0, vi 0, vu 0, vi 0, Value.slice none 0 0, vi 0, Value.slice none 0 0]) ty32 z z gZ z (le_ z) z z ?_
    intro qO cx g0
    have g1 := cI.st r z
    have g2 := g1.st M z
    have g3 := g2.st H z
    have g4 := g3.st cx z
    refine WL.store (v := Value.agg (List.toArray [vs [], Value.slice none 0 0, vi 0, vi 0, vB false, vi 0, vi 0, vi 0, vu 0, vu 0, vi 0, vu 0, vi 0, Value.slice none 0 0, vi 0, Value.slice none 0 0, vi 0])) (cells' := [vs [], Value.slice none 0 0, vi 0, vi 0, vB false, vi 0, vi 0, vi 0, vu 0, vu 0, vi 0, vu 0, vi 0, Value.slice none 0 0, vi 0, Value.slice none 0 0, vi 0]) ty37 z z g4 z (le_ z) z z ?_
    intro g5 cy g6
    refine wY (ya z) z (nl (th (rt (At.thenR ?_))))
    obtain ⟨rfl, rfl, rfl⟩ := tup3 h
    have g7 : Stp [12, 13, 14] (Lg.O0 A) w d8 g5 := (tr_ (su_ aq z) (tr_ (su_ ac z) (tr_ (su_ V z) (tr_ (su_ T z) (tr_ (su_ r z) (tr_ (su_ M z) (tr_ (su_ H z) (tr_ (su_ cx z) (su_ cy z)))))))))
    have g8 := g0.st cy z
    exact At.res (.inl z) z (.cell z (g8.runAg 0 [vB false, vi 0, vi 0, vi 0, vu 0, vu 0, vi 0, vu 0, vi 0, Value.slice none 0 0, vi 0, Value.slice none 0 0] ty32 z z z) (.cell z (g6.runAg 0 [vs [], Value.slice none 0 0, vi 0, vi 0, vB false, vi 0, vi 0, vi 0, vu 0, vu 0, vi 0, vu 0, vi 0, Value.slice none 0 0, vi 0, Value.slice none 0 0, vi 0] ty37 z z z) (.tmp z .nil))) ⟨Value.slice none 0 0, Value.slice none 0 0, Value.slice none 0 0, Value.slice none 0 0, Value.slice none 0 0, z, (se_ g7 z z), (Or.inl ⟨z, z⟩), (Or.inl ⟨z, z⟩), (Or.inl ⟨z, z⟩), (Or.inl ⟨z, z⟩), (Or.inl ⟨z, z⟩)⟩
   ·refine WC.condF' z b7 (sk (th (sq (rg ?_))))
    have ax := cV.st H z
    refine wY (yL ty37 z z (ax.cells 0 [vs a1.Name, (Value.slice ay az aA), vi a1.Kind, vi a1.Temp, vB a1.Mono, vi a1.Start, vi a1.Time, vi a1.Int_, vu a1.Re, vu a1.Im, vi ak, vu al, vi am, aC, vi an, aD, vi a1.Flags] z) z) z ?_
    have g9 := cK.i r z z
    have ha := g9.i M z z
    have dn := ha.i H z z
    have bu := cT.i H z z
    have bw := cU.i H z z
    obtain ⟨a, hc, h⟩ := bnd h
    refine WL.call (vals := [ag [vs a1.Name, (Value.slice ay az aA), vi a1.Kind, vi a1.Temp, vB a1.Mono, vi a1.Start, vi a1.Time, vi a1.Int_, vu a1.Re, vu a1.Im, vi ak, vu al, vi am, aC, vi an, aD, vi a1.Flags]]) kok64 z z (c_point_Clone (A := fun _ => True) (a0 := (api_Point.mk a1.Name a1.Attrs a1.Kind a1.Temp a1.Mono a1.Start a1.Time a1.Int_ a1.Re a1.Im (api_Hist.mk ak al (api_Side.mk am bQ) (api_Side.mk an bR)) a1.Flags)) (Sl.all dn) (Sl.all bu) (Sl.all bw) hc) ?_
    rintro qP b8 ⟨pI, pJ, pK, rfl, hd, pL, pM, pN⟩
    obtain ⟨b9, qr, br, C⟩ := adoptE d8 (fun k => 1) hd
    have he : Sl rep_api_Pair b8 (frs b9) pI a.Attrs := Sl.adoptF pL (fun k hk => ⟨hk, z⟩) br
    have hf : Sl Rep.u b8 (frs b9) pJ a.Hist.Pos.Counts := Sl.adoptF pM (fun k hk => ⟨hk, z⟩) br
    have hg : Sl Rep.u b8 (frs b9) pK a.Hist.Neg.Counts := Sl.adoptF pN (fun k hk => ⟨hk, z⟩) br
    refine WL.alloc (O := b9) 15 [vs [], Value.slice none 0 0, vi 0, vi 0, vB false, vi 0, vi 0, vi 0, vu 0, vu 0, vi 0, vu 0, vi 0, Value.slice none 0 0, vi 0, Value.slice none 0 0, vi 0] ty37 z z ?_
    intro bS ca qQ q hh
    have cb := he.f q z
    have hi := h
    obtain ⟨P, Q, S, rfl⟩ := cb.shape
    have h := hi
    have cc := hf.f q z
    have hj := h
    obtain ⟨ad, ae, af, rfl⟩ := cc.shape
    have h := hj
    have cd := hg.f q z
    have hl := h
    obtain ⟨ah, ai, aj, rfl⟩ := cd.shape
    have h := hl
    refine WL.store (v := ag [vs a.Name, (Value.slice P Q S), vi a.Kind, vi a.Temp, vB a.Mono, vi a.Start, vi a.Time, vi a.Int_, vu a.Re, vu a.Im, vi a.Hist.Scale, vu a.Hist.Zero, vi a.Hist.Pos.Offset, (Value.slice ad ae af), vi a.Hist.Neg.Offset, (Value.slice ah ai aj), vi a.Flags]) (cells' := [vs a.Name, (Value.slice P Q S), vi a.Kind, vi a.Temp, vB a.Mono, vi a.Start, vi a.Time, vi a.Int_, vu a.Re, vu a.Im, vi a.Hist.Scale, vu a.Hist.Zero, vi a.Hist.Pos.Offset, (Value.slice ad ae af), vi a.Hist.Neg.Offset, (Value.slice ah ai aj), vi a.Flags]) ty37 z z hh z (le_ z) z z ?_
    intro qR j hm
    refine nl (th (sq (rg (wY (yf fo37_3 z) z (WL.store (v := vi 2) (cells' := [vs a.Name, (Value.slice P Q S), vi a.Kind, vi 2, vB a.Mono, vi a.Start, vi a.Time, vi a.Int_, vu a.Re, vu a.Im, vi a.Hist.Scale, vu a.Hist.Zero, vi a.Hist.Pos.Offset, (Value.slice ad ae af), vi a.Hist.Neg.Offset, (Value.slice ah ai aj), vi a.Flags]) ty3 z z hm z (le_ z) z z ?_)))))
    intro qS l hn
    refine nl (th (sq (WC.drawH [16, 17] [0, 1, 2, 3, 4, 5, 6, 7, 8, 9, 10, 11, 12, 13, 14] ca 16 fmix z (by kernel_rfl) ?_)))
    intro ho d
    refine WD.y 0 z (by kernel_rfl) (fun _ _ _ => yf fo37_5 z) z (WD.y 1 z (by kernel_rfl) (fun qT rK d9 => have hp := ax.st C z; have hq := hp.st q z; have hr := hq.st j z; have hs := hr.st l z; have ht := hs.st d z; have hu := ht.st d9 z; yl ty3 z z (hu.cell 5 _ z)) z (WD.y 2 z (by kernel_rfl) (fun _ _ _ => yf fo37_6 z) z (WD.y 3 z (by kernel_rfl) (fun qU rL ea => have hv := ax.st C z; have hw := hv.st q z; have hx := hw.st j z; have hy := hx.st l z; have hz := hy.st d z; have hA := hz.st ea z; yl ty3 z z (hA.cell 6 _ z)) z (WD.y 4 z (by kernel_rfl) (fun _ _ _ => yf fo37_7 z) z (WD.y 5 z (by kernel_rfl) (fun qV rM eb => have hC := ax.st C z; have hD := hC.st q z; have hE := hD.st j z; have hF := hE.st l z; have hG := hF.st d z; have hH := hG.st eb z; yl ty3 z z (hH.cell 7 _ z)) z (WD.y 6 z (by kernel_rfl) (fun _ _ _ => yf fo37_8 z) z (WD.y 7 z (by kernel_rfl) (fun qW rN ec => have hI := ax.st C z; have hJ := hI.st q z; have hK := hJ.st j z; have hL := hK.st l z; have hM := hL.st d z; have hN := hM.st ec z; yl ty25 z z (hN.cell 8 _ z)) z (WD.y 8 z (by kernel_rfl) (fun _ _ _ => yf fo37_9 z) z (WD.y 9 z (by kernel_rfl) (fun qX rO ed => have hO := ax.st C z; have hP := hO.st q z; have hQ := hP.st j z; have hR := hQ.st l z; have hS := hR.st d z; have hT := hS.st ed z; yl ty25 z z (hT.cell 9 _ z)) z ?_)))))))))
    refine WD.y 10 z (by kernel_rfl) (fun _ _ _ => yf fo37_10 z) z (WD.y 11 z (by kernel_rfl) (fun qY rP ee => have hU := ax.st C z; have hV := hU.st q z; have hW := hV.st j z; have hX := hW.st l z; have hY := hX.st d z; have hZ := hY.st ee z; yL ty30 z z (hZ.cells 10 [vi ak, vu al, vi am, aC, vi an, aD] z) z) z ?_)
    obtain ⟨pO, h, h0⟩ := bnd h
    refine WD.join (σ := (Int × UInt64 × Int × List UInt64 × Int × List UInt64 × Own × Nat × Value × Value)) (f' := 1) [14, 13, 12, 11, 10, 9, 8, 7, 6, 5, 4, 3, 2, 1, 0] (fun x O' w' => (x.1, x.2.1, x.2.2.1, x.2.2.2.1, x.2.2.2.2.1, x.2.2.2.2.2.1) = pO ∧ Stp [16, 17] ca ho x.2.2.2.2.2.2.1 w' ∧ Blk 1001 x.2.2.2.2.2.2.1 w' x.2.2.2.2.2.2.2.1 32 [vB false, vi 0, vi 0, vi 0, vu 0, vu 0, vi 0, vu 0, vi 0, Value.slice none 0 0, vi 0, Value.slice none 0 0] ∧ Sl Rep.u w' (frs x.2.2.2.2.2.2.1) x.2.2.2.2.2.2.2.2.1 x.2.2.2.1 ∧ Sl Rep.u w' (frs x.2.2.2.2.2.2.1) x.2.2.2.2.2.2.2.2.2 x.2.2.2.2.2.1 ∧ x.2.2.2.2.2.2.1 = O') (fun x => [(3, pt bX 0), (4, pt bO 0), (6, pt bs 0), (7, pt bt 0), (10, pt bS 0), (11, Value.pointer (some ⟨x.2.2.2.2.2.2.2.1, 0, none⟩)), (65, ag [vB true, vi a1.Start, vi a1.Time, vi a1.Int_, vu a1.Re, vu a1.Im, vi x.1, vu x.2.1, vi x.2.2.1, x.2.2.2.2.2.2.2.2.1, vi x.2.2.2.2.1, x.2.2.2.2.2.2.2.2.2])]) (fun dp => ?_) ?_
    ·refine WD.heavy2 12 14 z z (by kernel_rfl) ?_ ?_
     ·have h1 := bu.i C z z
      have h2 := h1.i q z z
      have h3 := h2.i j z z
      have h4 := h3.i l z z
      have h5 := h4.i d z z
      have h6 := bw.i C z z
      have h7 := h6.i q z z
      have h8 := h7.i j z z
      have h9 := h8.i l z z
      have ia := h9.i d z z
      obtain ⟨X, ib, h⟩ := bnd h
      refine WL.call (vals := [ag [vi ak, vu al, vi am, aC, vi an, aD]]) kok46 z z (c_hist_Clone (A := fun _ => True) (a0 := (api_Hist.mk ak al (api_Side.mk am bQ) (api_Side.mk an bR))) (Sl.all h5) (Sl.all ia) ib) ?_
      rintro qZ dr ⟨pP, pQ, rfl, ic, pR, pS⟩
      obtain ⟨cW, qs, b0, cz⟩ := adoptE ca (fun k => 1) ic
      have ds : Sl Rep.u dr (frs cW) pP X.Pos.Counts := Sl.adoptF pR (fun k hk => ⟨hk, z⟩) b0
      have dt : Sl Rep.u dr (frs cW) pQ X.Neg.Counts := Sl.adoptF pS (fun k hk => ⟨hk, z⟩) b0
      refine nl (At.dq (su_ cz z) ?_)
      have ie := h
      obtain ⟨cX, cY, cZ, rfl⟩ := ds.shape
      have h := ie
      have ig := h
      obtain ⟨c0, c1, c2, rfl⟩ := dt.shape
      have h := ig
      refine WD.y 13 z (by kernel_rfl) (fun _ _ _ => yb (vals := [(0, vB true), (1, vi a1.Start), (2, vi a1.Time), (3, vi a1.Int_), (4, vu a1.Re), (5, vu a1.Im), (6, ag [vi X.Scale, vu X.Zero, vi X.Pos.Offset, (Value.slice cX cY cZ), vi X.Neg.Offset, (Value.slice c0 c1 c2)])]) (cells := [vB true, vi a1.Start, vi a1.Time, vi a1.Int_, vu a1.Re, vu a1.Im, vi X.Scale, vu X.Zero, vi X.Pos.Offset, (Value.slice cX cY cZ), vi X.Neg.Offset, (Value.slice c0 c1 c2)]) (fe_ z) (by kernel_rfl)) z (WD.heavy 14 z (by kernel_rfl) (WL.alloc (O := cW) 16 [vB false, vi 0, vi 0, vi 0, vu 0, vu 0, vi 0, vu 0, vi 0, Value.slice none 0 0, vi 0, Value.slice none 0 0] ty32 z z ?_))
      intro pT rQ q0 bi ih
      refine nl (At.dq (su_ bi z) ?_)
      obtain ⟨pU, bj, ii⟩ := Blk.rlb 1001 rfl ih
      have ij := ds.f bi z
      have ik := ij.f bj z
      have il := dt.f bi z
      have io := il.f bj z
      refine WD.own (su_ bj z) (WD.perm _ [14, 13, 12, 11, 10, 9, 8, 7, 6, 5, 4, 3, 2, 1, 0] (by kernel_rfl) ?_)
      exact dp (X.Scale, X.Zero, X.Pos.Offset, X.Pos.Counts, X.Neg.Offset, X.Neg.Counts, pU, pT, (Value.slice cX cY cZ), (Value.slice c0 c1 c2)) _ _ _ ⟨some1 h, (tr_ (su_ cz z) (tr_ (su_ bi z) (su_ bj z))), ii, ik, io, z⟩ (.cons z (.cons z (.cons z (.cons z (.cons z (.cons z (.cons z .nil)))))))
     ·try simp only [Option.bind_assoc] at h
      try simp only [Option.bind_some] at h
      refine WL.alloc (O := ca) 17 [vB false, vi 0, vi 0, vi 0, vu 0, vu 0, vi 0, vu 0, vi 0, Value.slice none 0 0, vi 0, Value.slice none 0 0] ty32 z z ?_
      intro pV pW q1 bk ip
      refine nl (At.dq (su_ bk z) (WD.heavy 12 z (by kernel_rfl) ?_))
      have iq := bu.i C z z
      have ir := iq.i q z z
      have it := ir.i j z z
      have iu := it.i l z z
      have iv := iu.i d z z
      have iw := iv.i bk z z
      have ix := bw.i C z z
      have iy := ix.i q z z
      have iz := iy.i j z z
      have iA := iz.i l z z
      have iB := iA.i d z z
      have iC := iB.i bk z z
      obtain ⟨Z, iD, h⟩ := bnd h
      refine WL.call (vals := [ag [vi ak, vu al, vi am, aC, vi an, aD]]) kok46 z z (c_hist_Clone (A := fun _ => True) (a0 := (api_Hist.mk ak al (api_Side.mk am bQ) (api_Side.mk an bR))) (Sl.all iw) (Sl.all iC) iD) ?_
      rintro q2 du ⟨pX, pY, rfl, iE, pZ, p0⟩
      obtain ⟨ef, qt, b1, bT⟩ := adoptE pW (fun k => 1) iE
      have dw : Sl Rep.u du (frs ef) pX Z.Pos.Counts := Sl.adoptF pZ (fun k hk => ⟨hk, z⟩) b1
      have dx : Sl Rep.u du (frs ef) pY Z.Neg.Counts := Sl.adoptF p0 (fun k hk => ⟨hk, z⟩) b1
      refine nl (At.dq (su_ bT z) ?_)
      have iF := h
      obtain ⟨c3, c4, c5, rfl⟩ := dw.shape
      have h := iF
      have iG := h
      obtain ⟨c6, c7, c8, rfl⟩ := dx.shape
      have h := iG
      refine WD.y 13 z (by kernel_rfl) (fun _ _ _ => yb (vals := [(0, vB true), (1, vi a1.Start), (2, vi a1.Time), (3, vi a1.Int_), (4, vu a1.Re), (5, vu a1.Im), (6, ag [vi Z.Scale, vu Z.Zero, vi Z.Pos.Offset, (Value.slice c3 c4 c5), vi Z.Neg.Offset, (Value.slice c6 c7 c8)])]) (cells := [vB true, vi a1.Start, vi a1.Time, vi a1.Int_, vu a1.Re, vu a1.Im, vi Z.Scale, vu Z.Zero, vi Z.Pos.Offset, (Value.slice c3 c4 c5), vi Z.Neg.Offset, (Value.slice c6 c7 c8)]) (fe_ z) (by kernel_rfl)) z ?_
      have iH := ip.st bT z
      obtain ⟨p1, bl, iI⟩ := Blk.rlb 1001 rfl iH
      have iJ := dw.f bl z
      have iK := dx.f bl z
      refine WD.own (su_ bl z) (WD.perm _ [14, 13, 12, 11, 10, 9, 8, 7, 6, 5, 4, 3, 2, 1, 0] (by kernel_rfl) ?_)
      exact dp (Z.Scale, Z.Zero, Z.Pos.Offset, Z.Pos.Counts, Z.Neg.Offset, Z.Neg.Counts, p1, pV, (Value.slice c3 c4 c5), (Value.slice c6 c7 c8)) _ _ _ ⟨some1 h, (tr_ (su_ bk z) (tr_ (su_ bT z) (su_ bl z))), iI, iJ, iK, z⟩ (.cons z (.cons z (.cons z (.cons z (.cons z (.cons z (.cons z .nil)))))))
    ·rintro ⟨aG, aH, aI, eg, aJ, eh, p3, ce, p4, p5⟩ _ q3 ⟨rfl, E, dy, bm, bn, rfl⟩
     replace h := h0
     try dsimp only at h E dy bm bn
     refine (show WD _ _ _ _ _ _ _ _ [(3, pt bX 0), (4, pt bO 0), (6, pt bs 0), (7, pt bt 0), (10, pt bS 0), (11, pt ce 0), (65, ag [vB true, vi a1.Start, vi a1.Time, vi a1.Int_, vu a1.Re, vu a1.Im, vi aG, vu aH, vi aI, p4, vi aJ, p5])] _ _ from ?_)
     refine WD.phase [1001] [0, 1, 2, 3, 4, 5, 6, 7, 8, 9, 10, 11, 12, 13, 14, 15] (by kernel_rfl) (by kernel_rfl) (WD.heavy 15 z (by kernel_rfl) ?_)
     have iL := h
     obtain ⟨aK, aL, aM, rfl⟩ := bm.shape
     have h := iL
     have iM := h
     obtain ⟨aN, aO, aP, rfl⟩ := bn.shape
     have h := iM
     refine WL.store (v := ag [vB true, vi a1.Start, vi a1.Time, vi a1.Int_, vu a1.Re, vu a1.Im, vi aG, vu aH, vi aI, (Value.slice aK aL aM), vi aJ, (Value.slice aN aO aP)]) (cells' := [vB true, vi a1.Start, vi a1.Time, vi a1.Int_, vu a1.Re, vu a1.Im, vi aG, vu aH, vi aI, (Value.slice aK aL aM), vi aJ, (Value.slice aN aO aP)]) ty32 z z dy z (le_ z) z z ?_
     intro q4 n bx
     refine nl (At.dq (su_ n z) (WD.done_ (by kernel_rfl) (th (sq (sq (rg ?_))))))
     have iN := d2.st ac z
     have iO := iN.st V z
     have iP := iO.st T z
     have iQ := iP.st r z
     have iR := iQ.st M z
     have iS := iR.st H z
     have iT := iS.st C z
     have iU := iT.st q z
     have iV := iU.st j z
     have iW := iV.st l z
     have iX := iW.st d z
     have iY := iX.st E z
     have dz := iY.st n z
     refine wY (yL ty32 z z (dz.cells 0 [vB a0.Some, vi a0.Start, vi a0.Time, vi a0.Int_, vu a0.Re, vu a0.Im, vi a0.Hist.Scale, vu a0.Hist.Zero, vi a0.Hist.Pos.Offset, (Value.slice aQ aR aS), vi a0.Hist.Neg.Offset, (Value.slice aT aU aW)] z) z) z ?_
     have iZ := ax.st C z
     have i0 := iZ.st q z
     have i1 := i0.st j z
     have i2 := i1.st l z
     have i3 := i2.st d z
     have i4 := i3.st E z
     have dA := i4.st n z
     refine wY (yL ty37 z z (dA.cells 0 [vs a1.Name, (Value.slice ay az aA), vi a1.Kind, vi a1.Temp, vB a1.Mono, vi a1.Start, vi a1.Time, vi a1.Int_, vu a1.Re, vu a1.Im, vi ak, vu al, vi am, aC, vi an, aD, vi a1.Flags] z) z) z ?_
     have i5 := cF.i aq z z
     have i6 := i5.i ac z z
     have i7 := i6.i V z z
     have i8 := i7.i T z z
     have i9 := i8.i r z z
     have ja := i9.i M z z
     have jb := ja.i H z z
     have jc := jb.i C z z
     have jd := jc.i q z z
     have je := jd.i j z z
     have jf := je.i l z z
     have jg := jf.i d z z
     have jh := jg.i E z z
     have dB := jh.i n z z
     have ji := cG.i aq z z
     have jj := ji.i ac z z
     have jk := jj.i V z z
     have jl := jk.i T z z
     have jm := jl.i r z z
     have jn := jm.i M z z
     have jo := jn.i H z z
     have jp := jo.i C z z
     have jq := jp.i q z z
     have jr := jq.i j z z
     have js := jr.i l z z
     have jt := js.i d z z
     have ju := jt.i E z z
     have dC := ju.i n z z
     have jv := dn.i C z z
     have jw := jv.i q z z
     have jx := jw.i j z z
     have jy := jx.i l z z
     have jz := jy.i d z z
     have jA := jz.i E z z
     have dD := jA.i n z z
     have jB := bu.i C z z
     have jC := jB.i q z z
     have jD := jC.i j z z
     have jE := jD.i l z z
     have jF := jE.i d z z
     have jG := jF.i E z z
     have dE := jG.i n z z
     have jH := bw.i C z z
     have jI := jH.i q z z
     have jJ := jI.i j z z
     have jK := jJ.i l z z
     have jL := jK.i d z z
     have jM := jL.i E z z
     have dF := jM.i n z z
     obtain ⟨a4, jN, h⟩ := bnd h
     refine WL.call (vals := [ag [vB a0.Some, vi a0.Start, vi a0.Time, vi a0.Int_, vu a0.Re, vu a0.Im, vi a0.Hist.Scale, vu a0.Hist.Zero, vi a0.Hist.Pos.Offset, (Value.slice aQ aR aS), vi a0.Hist.Neg.Offset, (Value.slice aT aU aW)], ag [vs a1.Name, (Value.slice ay az aA), vi a1.Kind, vi a1.Temp, vB a1.Mono, vi a1.Start, vi a1.Time, vi a1.Int_, vu a1.Re, vu a1.Im, vi ak, vu al, vi am, aC, vi an, aD, vi a1.Flags]]) kok65 z z (c_todelta_begins (A := fun _ => True) (a0 := a0) (a1 := (api_Point.mk a1.Name a1.Attrs a1.Kind a1.Temp a1.Mono a1.Start a1.Time a1.Int_ a1.Re a1.Im (api_Hist.mk ak al (api_Side.mk am bQ) (api_Side.mk an bR)) a1.Flags)) (Sl.all dB) (Sl.all dC) (Sl.all dD) (Sl.all dE) (Sl.all dF) jN) ?_
     rintro q5 q6 ⟨rfl, jO⟩
     obtain ⟨c9, qu, qv, e⟩ := adoptE p3 (fun k => 1) jO
     refine wY (yf fo37_11 z) z ?_
     have jP := hn.st d z
     have jQ := jP.st E z
     have jR := jQ.st n z
     have jS := jR.st e z
     refine WL.store (v := vi a4) (cells' := [vs a.Name, (Value.slice P Q S), vi a.Kind, vi 2, vB a.Mono, vi a.Start, vi a.Time, vi a.Int_, vu a.Re, vu a.Im, vi a.Hist.Scale, vu a.Hist.Zero, vi a.Hist.Pos.Offset, (Value.slice ad ae af), vi a.Hist.Neg.Offset, (Value.slice ah ai aj), vi a4]) ty3 z z jS z (le_ z) z z ?_
     intro q7 m cf
     refine nl (th (sq (rg (wY (yf fo37_11 z) z (wY (yl ty3 z z (cf.cell 16 _ z)) z (wY (Y.neq_i z z) z (nl (th ?_))))))))
     rcases cnd h with ⟨cg, h⟩ | ⟨cg, h⟩
     ·refine WC.condT' z cg (sq (WC.drawH [13] [0, 1, 2] c9 5 fmix z (by kernel_rfl) ?_))
      intro q8 ab
      refine WD.y 0 z (by kernel_rfl) (fun q9 rR ei => have jT := bx.st e z; have jU := jT.st m z; have jV := jU.st ab z; have jW := jV.st ei z; yL ty32 z z (jW.cells 0 [vB true, vi a1.Start, vi a1.Time, vi a1.Int_, vu a1.Re, vu a1.Im, vi aG, vu aH, vi aI, (Value.slice aK aL aM), vi aJ, (Value.slice aN aO aP)] z) z) z (WD.y 1 z (by kernel_rfl) (fun ra rT ej => have jX := cf.st ab z; have jY := jX.st ej z; yL ty37 z z (jY.cells 0 [vs a.Name, (Value.slice P Q S), vi a.Kind, vi 2, vB a.Mono, vi a.Start, vi a.Time, vi a.Int_, vu a.Re, vu a.Im, vi a.Hist.Scale, vu a.Hist.Zero, vi a.Hist.Pos.Offset, (Value.slice ad ae af), vi a.Hist.Neg.Offset, (Value.slice ah ai aj), vi a4] z) z) z (WD.heavy 2 z (by kernel_rfl) ?_))
      have jZ := cH.st T z
      have j0 := jZ.st r z
      have j1 := j0.st M z
      have j2 := j1.st H z
      have j3 := j2.st C z
      have j4 := j3.st q z
      have j5 := j4.st j z
      have j6 := j5.st l z
      have j7 := j6.st d z
      have j8 := j7.st E z
      have j9 := j8.st n z
      have ka := j9.st e z
      have kb := ka.st m z
      have kc := kb.st ab z
      refine WL.store (v := ag [vB true, vi a1.Start, vi a1.Time, vi a1.Int_, vu a1.Re, vu a1.Im, vi aG, vu aH, vi aI, (Value.slice aK aL aM), vi aJ, (Value.slice aN aO aP)]) (cells' := [vB true, vi a1.Start, vi a1.Time, vi a1.Int_, vu a1.Re, vu a1.Im, vi aG, vu aH, vi aI, (Value.slice aK aL aM), vi aJ, (Value.slice aN aO aP)]) ty32 z z kc z (le_ z) z z ?_
      intro rb ar kd
      refine nl (At.dq (su_ ar z) (WD.phase [14] [0, 1, 2, 3, 4] (by kernel_rfl) (by kernel_rfl) (WD.heavy 3 z (by kernel_rfl) ?_)))
      have ke := cI.st r z
      have kf := ke.st M z
      have kg := kf.st H z
      have kh := kg.st C z
      have ki := kh.st q z
      have kj := ki.st j z
      have kk := kj.st l z
      have km := kk.st d z
      have kn := km.st E z
      have ko := kn.st n z
      have kp := ko.st e z
      have kq := kp.st m z
      have kr := kq.st ab z
      have ks := kr.st ar z
      refine WL.store (v := ag [vs a.Name, (Value.slice P Q S), vi a.Kind, vi 2, vB a.Mono, vi a.Start, vi a.Time, vi a.Int_, vu a.Re, vu a.Im, vi a.Hist.Scale, vu a.Hist.Zero, vi a.Hist.Pos.Offset, (Value.slice ad ae af), vi a.Hist.Neg.Offset, (Value.slice ah ai aj), vi a4]) (cells' := [vs a.Name, (Value.slice P Q S), vi a.Kind, vi 2, vB a.Mono, vi a.Start, vi a.Time, vi a.Int_, vu a.Re, vu a.Im, vi a.Hist.Scale, vu a.Hist.Zero, vi a.Hist.Pos.Offset, (Value.slice ad ae af), vi a.Hist.Neg.Offset, (Value.slice ah ai aj), vi a4]) ty37 z z ks z (le_ z) z z ?_
      intro kt au ku
      refine nl (At.dq (su_ au z) (WD.y 4 z (by kernel_rfl) (fun _ _ _ => ya z) z (WD.done_ (by kernel_rfl) (th (rt (At.thenR ?_))))))
      obtain ⟨rfl, rfl, rfl⟩ := tup3 h
      have aZ : Stp [12, 13, 14, 15, 16, 17, 1001] (Lg.O0 A) w c9 kt := (tr_ (su_ aq z) (tr_ (su_ ac z) (tr_ (su_ V z) (tr_ (su_ T z) (tr_ (su_ r z) (tr_ (su_ M z) (tr_ (su_ H z) (tr_ (su_ C z) (tr_ (su_ q z) (tr_ (su_ j z) (tr_ (su_ l z) (tr_ (su_ d z) (tr_ (su_ E z) (tr_ (su_ n z) (tr_ (su_ e z) (tr_ (su_ m z) (tr_ (su_ ab z) (tr_ (su_ ar z) (su_ au z)))))))))))))))))))
      have kv := bm.f n z
      have kw := kv.f e z
      have kx := kw.f m z
      have ky := kx.f ab z
      have kz := ky.f ar z
      have kA := kz.f au z
      have kB := bn.f n z
      have kC := kB.f e z
      have kD := kC.f m z
      have kE := kD.f ab z
      have kF := kE.f ar z
      have kG := kF.f au z
      have kH := cb.f j z
      have kI := kH.f l z
      have kJ := kI.f d z
      have kK := kJ.f E z
      have kL := kK.f n z
      have kM := kL.f e z
      have kN := kM.f m z
      have kO := kN.f ab z
      have kP := kO.f ar z
      have kQ := kP.f au z
      have kR := cc.f j z
      have kS := kR.f l z
      have kT := kS.f d z
      have kU := kT.f E z
      have kV := kU.f n z
      have kW := kV.f e z
      have kX := kW.f m z
      have kY := kX.f ab z
      have kZ := kY.f ar z
      have k0 := kZ.f au z
      have k1 := cd.f j z
      have k2 := k1.f l z
      have k3 := k2.f d z
      have k4 := k3.f E z
      have k5 := k4.f n z
      have k6 := k5.f e z
      have k7 := k6.f m z
      have k8 := k7.f ab z
      have k9 := k8.f ar z
      have la := k9.f au z
      have lb := kd.st au z
      exact At.res (.inl z) z (.cell z (lb.runAg 0 [vB true, vi a1.Start, vi a1.Time, vi a1.Int_, vu a1.Re, vu a1.Im, vi aG, vu aH, vi aI, (Value.slice aK aL aM), vi aJ, (Value.slice aN aO aP)] ty32 z z z) (.cell z (ku.runAg 0 [vs a.Name, (Value.slice P Q S), vi a.Kind, vi 2, vB a.Mono, vi a.Start, vi a.Time, vi a.Int_, vu a.Re, vu a.Im, vi a.Hist.Scale, vu a.Hist.Zero, vi a.Hist.Pos.Offset, (Value.slice ad ae af), vi a.Hist.Neg.Offset, (Value.slice ah ai aj), vi a4] ty37 z z z) (.tmp z .nil))) ⟨(Value.slice aK aL aM), (Value.slice aN aO aP), (Value.slice P Q S), (Value.slice ad ae af), (Value.slice ah ai aj), z, (se_ aZ z z), (Sl.outF kA aZ low0), (Sl.outF kG aZ low0), (Sl.outF kQ aZ low0), (Sl.outF k0 aZ low0), (Sl.outF la aZ low0)⟩
     ·refine WC.condF' z cg (sk (th (sq (rg ?_))))
      have lc := dA.st e z
      have dG := lc.st m z
      refine wY (yL ty37 z z (dG.cells 0 [vs a1.Name, (Value.slice ay az aA), vi a1.Kind, vi a1.Temp, vB a1.Mono, vi a1.Start, vi a1.Time, vi a1.Int_, vu a1.Re, vu a1.Im, vi ak, vu al, vi am, aC, vi an, aD, vi a1.Flags] z) z) z (wY (yf fo32_3 z) z ?_)
      have ld := dz.st e z
      have bo := ld.st m z
      refine wY (yl ty3 z z (bo.cell 3 _ z)) z (wY (yf fo32_4 z) z (wY (yl ty25 z z (bo.cell 4 _ z)) z (wY (yf fo32_5 z) z (wY (yl ty25 z z (bo.cell 5 _ z)) z (wY (yf fo32_6 z) z (wY (yL ty30 z z (bo.cells 6 [vi a0.Hist.Scale, vu a0.Hist.Zero, vi a0.Hist.Pos.Offset, (Value.slice aQ aR aS), vi a0.Hist.Neg.Offset, (Value.slice aT aU aW)] z) z) z (wY (yb (vals := [(0, vi a0.Int_), (1, vu a0.Re), (2, vu a0.Im), (3, ag [vi a0.Hist.Scale, vu a0.Hist.Zero, vi a0.Hist.Pos.Offset, (Value.slice aQ aR aS), vi a0.Hist.Neg.Offset, (Value.slice aT aU aW)])]) (cells := [vi a0.Int_, vu a0.Re, vu a0.Im, vi a0.Hist.Scale, vu a0.Hist.Zero, vi a0.Hist.Pos.Offset, (Value.slice aQ aR aS), vi a0.Hist.Neg.Offset, (Value.slice aT aU aW)]) (fe_ z) (by kernel_rfl)) z ?_)))))))
      have lf := dD.i e z z
      have lg := lf.i m z z
      have lh := dE.i e z z
      have dH := lh.i m z z
      have li := dF.i e z z
      have dI := li.i m z z
      have lj := dB.i e z z
      have dJ := lj.i m z z
      have ll := dC.i e z z
      have dK := ll.i m z z
      obtain ⟨⟨c, av⟩, lm, h⟩ := bnd h
      refine WL.call (vals := [ag [vs a1.Name, (Value.slice ay az aA), vi a1.Kind, vi a1.Temp, vB a1.Mono, vi a1.Start, vi a1.Time, vi a1.Int_, vu a1.Re, vu a1.Im, vi ak, vu al, vi am, aC, vi an, aD, vi a1.Flags], ag [vi a0.Int_, vu a0.Re, vu a0.Im, vi a0.Hist.Scale, vu a0.Hist.Zero, vi a0.Hist.Pos.Offset, (Value.slice aQ aR aS), vi a0.Hist.Neg.Offset, (Value.slice aT aU aW)]]) kok66 z z (c_todelta_less (A := fun _ => True) (a0 := (api_Point.mk a1.Name a1.Attrs a1.Kind a1.Temp a1.Mono a1.Start a1.Time a1.Int_ a1.Re a1.Im (api_Hist.mk ak al (api_Side.mk am bQ) (api_Side.mk an bR)) a1.Flags)) (a1 := (todelta_value.mk a0.Int_ a0.Re a0.Im a0.Hist)) (Sl.all lg) (Sl.all dH) (Sl.all dI) (Sl.all dJ) (Sl.all dK) lm) ?_
      rintro rc dL ⟨p6, p8, rfl, ln, p9, qa⟩
      obtain ⟨da, qw, b2, G⟩ := adoptE c9 (fun k => 1) ln
      have lo : Sl Rep.u dL (frs da) p6 c.h.Pos.Counts := Sl.adoptF p9 (fun k hk => ⟨hk, z⟩) b2
      have lp : Sl Rep.u dL (frs da) p8 c.h.Neg.Counts := Sl.adoptF qa (fun k hk => ⟨hk, z⟩) b2
      refine wY (ym z) z (wY (yx z z) z (wY (yx z z) z (WL.alloc (O := da) 18 [vi 0, vu 0, vu 0, vi 0, vu 0, vi 0, Value.slice none 0 0, vi 0, Value.slice none 0 0] ty102 z z ?_)))
      intro rU bU rd D lq
      have ch := lo.f D z
      have lr := h
      obtain ⟨a5, a6, a7, rfl⟩ := ch.shape
      have h := lr
      have ci := lp.f D z
      have ls := h
      obtain ⟨a8, a9, ba, rfl⟩ := ci.shape
      have h := ls
      refine WL.store (v := ag [vi c.i, vu c.re, vu c.im, vi c.h.Scale, vu c.h.Zero, vi c.h.Pos.Offset, (Value.slice a5 a6 a7), vi c.h.Neg.Offset, (Value.slice a8 a9 ba)]) (cells' := [vi c.i, vu c.re, vu c.im, vi c.h.Scale, vu c.h.Zero, vi c.h.Pos.Offset, (Value.slice a5 a6 a7), vi c.h.Neg.Offset, (Value.slice a8 a9 ba)]) ty102 z z lq z (le_ z) z z ?_
      intro rf t bz
      refine wY (ya z) z (nl (th (sq (rg (wY (yf fo32_2 z) z ?_)))))
      have lu := bo.st G z
      have lv := lu.st D z
      have dM := lv.st t z
      refine wY (yl ty3 z z (dM.cell 2 _ z)) z (wY (ym z) z (wY (yf fo37_5 z) z ?_))
      have lw := cf.st G z
      have lx := lw.st D z
      have ly := lx.st t z
      refine WL.store (v := vi a0.Time) (cells' := [vs a.Name, (Value.slice P Q S), vi a.Kind, vi 2, vB a.Mono, vi a0.Time, vi a.Time, vi a.Int_, vu a.Re, vu a.Im, vi a.Hist.Scale, vu a.Hist.Zero, vi a.Hist.Pos.Offset, (Value.slice ad ae af), vi a.Hist.Neg.Offset, (Value.slice ah ai aj), vi a4]) ty3 z z ly z (le_ z) z z ?_
      intro rh o lA
      refine wY (yf fo37_11 z) z (WL.store (v := vi av) (cells' := [vs a.Name, (Value.slice P Q S), vi a.Kind, vi 2, vB a.Mono, vi a0.Time, vi a.Time, vi a.Int_, vu a.Re, vu a.Im, vi a.Hist.Scale, vu a.Hist.Zero, vi a.Hist.Pos.Offset, (Value.slice ad ae af), vi a.Hist.Neg.Offset, (Value.slice ah ai aj), vi av]) ty3 z z lA z (le_ z) z z ?_)
      intro lB p dN
      refine nl (th (sq ?_))
      obtain ⟨qb, h, lC⟩ := bnd h
      refine WC.join (σ := (Int × UInt64 × UInt64 × Int × UInt64 × Int × List UInt64 × Int × List UInt64 × Int × UInt64 × Int × List UInt64 × Int × List UInt64 × Own × Value × Value × Value × Value)) (fun x w' => (x.1, x.2.1, x.2.2.1, x.2.2.2.1, x.2.2.2.2.1, x.2.2.2.2.2.1, x.2.2.2.2.2.2.1, x.2.2.2.2.2.2.2.1, x.2.2.2.2.2.2.2.2.1, x.2.2.2.2.2.2.2.2.2.1, x.2.2.2.2.2.2.2.2.2.2.1, x.2.2.2.2.2.2.2.2.2.2.2.1, x.2.2.2.2.2.2.2.2.2.2.2.2.1, x.2.2.2.2.2.2.2.2.2.2.2.2.2.1, x.2.2.2.2.2.2.2.2.2.2.2.2.2.2.1) = qb ∧ Stp [15, 1001] bU lB x.2.2.2.2.2.2.2.2.2.2.2.2.2.2.2.1 w' ∧ Sl Rep.u w' (frs x.2.2.2.2.2.2.2.2.2.2.2.2.2.2.2.1) x.2.2.2.2.2.2.2.2.2.2.2.2.2.2.2.2.1 x.2.2.2.2.2.2.1 ∧ Sl Rep.u w' (frs x.2.2.2.2.2.2.2.2.2.2.2.2.2.2.2.1) x.2.2.2.2.2.2.2.2.2.2.2.2.2.2.2.2.2.1 x.2.2.2.2.2.2.2.2.1 ∧ Blk 15 x.2.2.2.2.2.2.2.2.2.2.2.2.2.2.2.1 w' bS 37 [vs a.Name, (Value.slice P Q S), vi a.Kind, vi 2, vB a.Mono, vi a0.Time, vi a.Time, vi x.1, vu x.2.1, vu x.2.2.1, vi x.2.2.2.1, vu x.2.2.2.2.1, vi x.2.2.2.2.2.1, x.2.2.2.2.2.2.2.2.2.2.2.2.2.2.2.2.1, vi x.2.2.2.2.2.2.2.1, x.2.2.2.2.2.2.2.2.2.2.2.2.2.2.2.2.2.1, vi av] ∧ Sl Rep.u w' (frs x.2.2.2.2.2.2.2.2.2.2.2.2.2.2.2.1) x.2.2.2.2.2.2.2.2.2.2.2.2.2.2.2.2.2.2.1 x.2.2.2.2.2.2.2.2.2.2.2.2.1 ∧ Sl Rep.u w' (frs x.2.2.2.2.2.2.2.2.2.2.2.2.2.2.2.1) x.2.2.2.2.2.2.2.2.2.2.2.2.2.2.2.2.2.2.2 x.2.2.2.2.2.2.2.2.2.2.2.2.2.2.1 ∧ Blk 1001 x.2.2.2.2.2.2.2.2.2.2.2.2.2.2.2.1 w' ce 32 [vB true, vi a1.Start, vi a1.Time, vi a1.Int_, vu a1.Re, vu a1.Im, vi x.2.2.2.2.2.2.2.2.2.1, vu x.2.2.2.2.2.2.2.2.2.2.1, vi x.2.2.2.2.2.2.2.2.2.2.2.1, x.2.2.2.2.2.2.2.2.2.2.2.2.2.2.2.2.2.2.1, vi x.2.2.2.2.2.2.2.2.2.2.2.2.2.1, x.2.2.2.2.2.2.2.2.2.2.2.2.2.2.2.2.2.2.2]) (fun x => [(6, pt bs 0), (7, pt bt 0), (10, pt bS 0), (11, pt ce 0)]) ?_ ?_
      ·refine sq (rg (wY (ym z) z (wY (Y.eql_i z z) z (nl (th ?_)))))
       rcases cnd h with ⟨cj, h⟩ | ⟨cj, h⟩
       ·refine WC.condT' z cj (sq (WC.drawH [15] [0, 1, 2, 3, 4, 5, 6, 7, 8, 9, 10, 11, 12, 13, 14] bU 16 fmix z (by kernel_rfl) ?_))
        intro ri F
        refine WD.y 0 z (by kernel_rfl) (fun _ _ _ => yf fo102_0 z) z (WD.y 1 z (by kernel_rfl) (fun rj rV ek => have lD := bz.st o z; have lE := lD.st p z; have lF := lE.st F z; have lG := lF.st ek z; yl ty3 z z (lG.cell 0 _ z)) z (WD.y 2 z (by kernel_rfl) (fun _ _ _ => yf fo102_1 z) z (WD.y 3 z (by kernel_rfl) (fun rk rW em => have lH := bz.st o z; have lI := lH.st p z; have lJ := lI.st F z; have lK := lJ.st em z; yl ty25 z z (lK.cell 1 _ z)) z (WD.y 4 z (by kernel_rfl) (fun _ _ _ => yf fo102_2 z) z (WD.y 5 z (by kernel_rfl) (fun rl rX en => have lL := bz.st o z; have lM := lL.st p z; have lN := lM.st F z; have lO := lN.st en z; yl ty25 z z (lO.cell 2 _ z)) z (WD.y 6 z (by kernel_rfl) (fun _ _ _ => yf fo102_3 z) z (WD.y 7 z (by kernel_rfl) (fun rm rY eo => have lP := bz.st o z; have lQ := lP.st p z; have lR := lQ.st F z; have lS := lR.st eo z; yL ty30 z z (lS.cells 3 [vi c.h.Scale, vu c.h.Zero, vi c.h.Pos.Offset, (Value.slice a5 a6 a7), vi c.h.Neg.Offset, (Value.slice a8 a9 ba)] z) z) z (WD.y 8 z (by kernel_rfl) (fun _ _ _ => yf fo37_7 z) z (WD.heavy 9 z (by kernel_rfl) ?_)))))))))
        have lT := dN.st F z
        refine WL.store (v := vi c.i) (cells' := [vs a.Name, (Value.slice P Q S), vi a.Kind, vi 2, vB a.Mono, vi a0.Time, vi a.Time, vi c.i, vu a.Re, vu a.Im, vi a.Hist.Scale, vu a.Hist.Zero, vi a.Hist.Pos.Offset, (Value.slice ad ae af), vi a.Hist.Neg.Offset, (Value.slice ah ai aj), vi av]) ty3 z z lT z (le_ z) z z ?_
        intro rn I lU
        refine nl (At.dq (su_ I z) (WD.y 10 z (by kernel_rfl) (fun _ _ _ => yf fo37_8 z) z (WD.heavy 11 z (by kernel_rfl) (WL.store (v := vu c.re) (cells' := [vs a.Name, (Value.slice P Q S), vi a.Kind, vi 2, vB a.Mono, vi a0.Time, vi a.Time, vi c.i, vu c.re, vu a.Im, vi a.Hist.Scale, vu a.Hist.Zero, vi a.Hist.Pos.Offset, (Value.slice ad ae af), vi a.Hist.Neg.Offset, (Value.slice ah ai aj), vi av]) ty25 z z lU z (le_ z) z z ?_))))
        intro ro J lV
        refine nl (At.dq (su_ J z) (WD.y 12 z (by kernel_rfl) (fun _ _ _ => yf fo37_9 z) z (WD.heavy 13 z (by kernel_rfl) (WL.store (v := vu c.im) (cells' := [vs a.Name, (Value.slice P Q S), vi a.Kind, vi 2, vB a.Mono, vi a0.Time, vi a.Time, vi c.i, vu c.re, vu c.im, vi a.Hist.Scale, vu a.Hist.Zero, vi a.Hist.Pos.Offset, (Value.slice ad ae af), vi a.Hist.Neg.Offset, (Value.slice ah ai aj), vi av]) ty25 z z lV z (le_ z) z z ?_))))
        intro rp K lW
        refine nl (At.dq (su_ K z) (WD.y 14 z (by kernel_rfl) (fun _ _ _ => yf fo37_10 z) z (WD.phase [15] [0, 1, 2, 3, 4, 5, 6, 7, 8, 9, 10, 11, 12, 13, 14, 15] (by kernel_rfl) (by kernel_rfl) (WD.heavy 15 z (by kernel_rfl) (WL.store (v := ag [vi c.h.Scale, vu c.h.Zero, vi c.h.Pos.Offset, (Value.slice a5 a6 a7), vi c.h.Neg.Offset, (Value.slice a8 a9 ba)]) (cells' := [vs a.Name, (Value.slice P Q S), vi a.Kind, vi 2, vB a.Mono, vi a0.Time, vi a.Time, vi c.i, vu c.re, vu c.im, vi c.h.Scale, vu c.h.Zero, vi c.h.Pos.Offset, (Value.slice a5 a6 a7), vi c.h.Neg.Offset, (Value.slice a8 a9 ba), vi av]) ty30 z z lW z (le_ z) z z ?_)))))
        intro rq L dO
        refine nl (At.dq (su_ L z) (WD.done_ (by kernel_rfl) (th (sq (rg (wY (yf fo37_2 z) z ?_))))))
        have lX := dG.st G z
        have lY := lX.st D z
        have lZ := lY.st t z
        have l0 := lZ.st o z
        have l1 := l0.st p z
        have l2 := l1.st F z
        have l3 := l2.st I z
        have l4 := l3.st J z
        have l5 := l4.st K z
        have dP := l5.st L z
        refine wY (yl ty3 z z (dP.cell 2 _ z)) z (wY (Y.eql_i z z) z (nl (th ?_)))
        rcases cnd h with ⟨ck, h⟩ | ⟨ck, h⟩
        ·refine WC.condT' z ck (rg (wY (yf fo37_10 z) z (wY (yL ty30 z z (dP.cells 10 [vi ak, vu al, vi am, aC, vi an, aD] z) z) z (wY (yf fo32_6 z) z ?_))))
         have l6 := dM.st o z
         have l7 := l6.st p z
         have l8 := l7.st F z
         have l9 := l8.st I z
         have ma := l9.st J z
         have mb := ma.st K z
         have mc := mb.st L z
         refine wY (yL ty30 z z (mc.cells 6 [vi a0.Hist.Scale, vu a0.Hist.Zero, vi a0.Hist.Pos.Offset, (Value.slice aQ aR aS), vi a0.Hist.Neg.Offset, (Value.slice aT aU aW)] z) z) z ?_
         have md := dH.i G z z
         have me := md.i D z z
         have mf := me.i t z z
         have mg := mf.i o z z
         have mh := mg.i p z z
         have mi := mh.i F z z
         have mj := mi.i I z z
         have ml := mj.i J z z
         have mm := ml.i K z z
         have mn := mm.i L z z
         have mo := dI.i G z z
         have mp := mo.i D z z
         have mq := mp.i t z z
         have mr := mq.i o z z
         have ms := mr.i p z z
         have mt := ms.i F z z
         have mu := mt.i I z z
         have mv := mu.i J z z
         have mw := mv.i K z z
         have mx := mw.i L z z
         have my := dJ.i G z z
         have mz := my.i D z z
         have mA := mz.i t z z
         have mB := mA.i o z z
         have mC := mB.i p z z
         have mD := mC.i F z z
         have mE := mD.i I z z
         have mF := mE.i J z z
         have mG := mF.i K z z
         have mH := mG.i L z z
         have mI := dK.i G z z
         have mJ := mI.i D z z
         have mK := mJ.i t z z
         have mL := mK.i o z z
         have mM := mL.i p z z
         have mN := mM.i F z z
         have mO := mN.i I z z
         have mP := mO.i J z z
         have mQ := mP.i K z z
         have mR := mQ.i L z z
         obtain ⟨⟨aa, ep, rZ⟩, mS, h⟩ := bnd h
         refine WL.call (vals := [ag [vi ak, vu al, vi am, aC, vi an, aD], ag [vi a0.Hist.Scale, vu a0.Hist.Zero, vi a0.Hist.Pos.Offset, (Value.slice aQ aR aS), vi a0.Hist.Neg.Offset, (Value.slice aT aU aW)]]) kok52 z z (c_fold_Level (A := fun _ => True) (a0 := (api_Hist.mk ak al (api_Side.mk am bQ) (api_Side.mk an bR))) (a1 := a0.Hist) (Sl.all mn) (Sl.all mx) (Sl.all mH) (Sl.all mR) mS) ?_
         rintro rr bA ⟨qc, qd, qe, qf, rfl, mT, qg, qh, qi, qj⟩
         obtain ⟨bW, qx, a3, aX⟩ := adoptE bU (fun k => 1) mT
         have dQ : Sl Rep.u bA (frs bW) qc aa.Pos.Counts := Sl.adoptF qg (fun k hk => ⟨hk, z⟩) a3
         have dR : Sl Rep.u bA (frs bW) qd aa.Neg.Counts := Sl.adoptF qh (fun k hk => ⟨hk, z⟩) a3
         have rs : Sl Rep.u bA (frs bW) qe ep.Pos.Counts := Sl.adoptF qi (fun k hk => ⟨hk, z⟩) a3
         have ru : Sl Rep.u bA (frs bW) qf ep.Neg.Counts := Sl.adoptF qj (fun k hk => ⟨hk, z⟩) a3
         refine wY (ym z) z (wY (yx z z) z (wY (yx z z) z (wY (yx z z) z (wY (yf fo32_6 z) z ?_))))
         have mU := h
         obtain ⟨db, dc, dd, rfl⟩ := dQ.shape
         have h := mU
         have mV := h
         obtain ⟨de, df, dg, rfl⟩ := dR.shape
         have h := mV
         have mW := bx.st e z
         have mX := mW.st m z
         have mY := mX.st G z
         have mZ := mY.st D z
         have m0 := mZ.st t z
         have m1 := m0.st o z
         have m2 := m1.st p z
         have m3 := m2.st F z
         have m4 := m3.st I z
         have m5 := m4.st J z
         have m6 := m5.st K z
         have m7 := m6.st L z
         have m8 := m7.st aX z
         refine WL.store (v := ag [vi aa.Scale, vu aa.Zero, vi aa.Pos.Offset, (Value.slice db dc dd), vi aa.Neg.Offset, (Value.slice de df dg)]) (cells' := [vB true, vi a1.Start, vi a1.Time, vi a1.Int_, vu a1.Re, vu a1.Im, vi aa.Scale, vu aa.Zero, vi aa.Pos.Offset, (Value.slice db dc dd), vi aa.Neg.Offset, (Value.slice de df dg)]) ty30 z z m8 z (le_ z) z z ?_
         intro rv aE m9
         refine nl ?_
         have na := ch.f t z
         have nb := na.f o z
         have nc := nb.f p z
         have nd := nc.f F z
         have ne := nd.f I z
         have nf := ne.f J z
         have ng := nf.f K z
         have nh := ng.f L z
         have ni := nh.f aX z
         have nj := ni.f aE z
         have nk := ci.f t z
         have nm := nk.f o z
         have nn := nm.f p z
         have np := nn.f F z
         have nq := np.f I z
         have nr := nq.f J z
         have ns := nr.f K z
         have nt := ns.f L z
         have nu := nt.f aX z
         have nv := nu.f aE z
         have nw := dO.st aX z
         have nx := nw.st aE z
         have ny := dQ.f aE z
         have nA := dR.f aE z
         exact At.join (σ := (Int × UInt64 × UInt64 × Int × UInt64 × Int × List UInt64 × Int × List UInt64 × Int × UInt64 × Int × List UInt64 × Int × List UInt64 × Own × Value × Value × Value × Value)) (c.i, c.re, c.im, c.h.Scale, c.h.Zero, c.h.Pos.Offset, c.h.Pos.Counts, c.h.Neg.Offset, c.h.Neg.Counts, aa.Scale, aa.Zero, aa.Pos.Offset, aa.Pos.Counts, aa.Neg.Offset, aa.Neg.Counts, bW, (Value.slice a5 a6 a7), (Value.slice a8 a9 ba), (Value.slice db dc dd), (Value.slice de df dg)) ⟨some1 h, (tr_ (su_ F z) (tr_ (su_ I z) (tr_ (su_ J z) (tr_ (su_ K z) (tr_ (su_ L z) (tr_ (su_ aX z) (su_ aE z))))))), nj, nv, nx, ny, nA, m9⟩ (.cons z (.cons z (.cons z (.cons z .nil))))
        ·refine WC.condF' z ck (sk ?_)
         have nB := ch.f t z
         have nC := nB.f o z
         have nD := nC.f p z
         have nF := nD.f F z
         have nG := nF.f I z
         have nH := nG.f J z
         have nI := nH.f K z
         have nJ := nI.f L z
         have nK := ci.f t z
         have nL := nK.f o z
         have nN := nL.f p z
         have nO := nN.f F z
         have nP := nO.f I z
         have nQ := nP.f J z
         have nR := nQ.f K z
         have nS := nR.f L z
         have nT := bm.f n z
         have nU := nT.f e z
         have nV := nU.f m z
         have nW := nV.f G z
         have nX := nW.f D z
         have nY := nX.f t z
         have nZ := nY.f o z
         have n0 := nZ.f p z
         have n3 := n0.f F z
         have n4 := n3.f I z
         have n5 := n4.f J z
         have n6 := n5.f K z
         have n7 := n6.f L z
         have n9 := bn.f n z
         have oa := n9.f e z
         have oc := oa.f m z
         have od := oc.f G z
         have oe := od.f D z
         have og := oe.f t z
         have oh := og.f o z
         have oi := oh.f p z
         have oj := oi.f F z
         have ol := oj.f I z
         have om := ol.f J z
         have oo := om.f K z
         have op := oo.f L z
         have oq := bx.st e z
         have os := oq.st m z
         have ot := os.st G z
         have ou := ot.st D z
         have ov := ou.st t z
         have ow := ov.st o z
         have ox := ow.st p z
         have oy := ox.st F z
         have oz := oy.st I z
         have oA := oz.st J z
         have oB := oA.st K z
         have oC := oB.st L z
         exact At.join (σ := (Int × UInt64 × UInt64 × Int × UInt64 × Int × List UInt64 × Int × List UInt64 × Int × UInt64 × Int × List UInt64 × Int × List UInt64 × Own × Value × Value × Value × Value)) (c.i, c.re, c.im, c.h.Scale, c.h.Zero, c.h.Pos.Offset, c.h.Pos.Counts, c.h.Neg.Offset, c.h.Neg.Counts, aG, aH, aI, eg, aJ, eh, bU, (Value.slice a5 a6 a7), (Value.slice a8 a9 ba), (Value.slice aK aL aM), (Value.slice aN aO aP)) ⟨some1 h, (tr_ (su_ F z) (tr_ (su_ I z) (tr_ (su_ J z) (tr_ (su_ K z) (su_ L z))))), nJ, nS, dO, n7, op, oC⟩ (.cons z (.cons z (.cons z (.cons z .nil))))
       ·refine WC.condF' z cj (sk ?_)
        have oD := cc.f j z
        have oE := oD.f l z
        have oF := oE.f d z
        have oG := oF.f E z
        have oH := oG.f n z
        have oI := oH.f e z
        have oJ := oI.f m z
        have oK := oJ.f G z
        have oL := oK.f D z
        have oM := oL.f t z
        have oN := oM.f o z
        have oO := oN.f p z
        have oP := cd.f j z
        have oQ := oP.f l z
        have oR := oQ.f d z
        have oS := oR.f E z
        have oT := oS.f n z
        have oU := oT.f e z
        have oV := oU.f m z
        have oW := oV.f G z
        have oX := oW.f D z
        have oY := oX.f t z
        have oZ := oY.f o z
        have o0 := oZ.f p z
        have o1 := bm.f n z
        have o2 := o1.f e z
        have o3 := o2.f m z
        have o4 := o3.f G z
        have o5 := o4.f D z
        have o6 := o5.f t z
        have er := o6.f o z
        have es := er.f p z
        have et := bn.f n z
        have eu := et.f e z
        have ew := eu.f m z
        have ex := ew.f G z
        have ey := ex.f D z
        have ez := ey.f t z
        have eA := ez.f o z
        have eB := eA.f p z
        have eC := bx.st e z
        have eD := eC.st m z
        have eE := eD.st G z
        have eF := eE.st D z
        have eG := eF.st t z
        have eH := eG.st o z
        have eI := eH.st p z
        exact At.join (σ := (Int × UInt64 × UInt64 × Int × UInt64 × Int × List UInt64 × Int × List UInt64 × Int × UInt64 × Int × List UInt64 × Int × List UInt64 × Own × Value × Value × Value × Value)) (a.Int_, a.Re, a.Im, a.Hist.Scale, a.Hist.Zero, a.Hist.Pos.Offset, a.Hist.Pos.Counts, a.Hist.Neg.Offset, a.Hist.Neg.Counts, aG, aH, aI, eg, aJ, eh, bU, (Value.slice ad ae af), (Value.slice ah ai aj), (Value.slice aK aL aM), (Value.slice aN aO aP)) ⟨some1 h, (sr_ _ _ _), oO, o0, dN, es, eB, eI⟩ (.cons z (.cons z (.cons z (.cons z .nil))))
      ·rintro ⟨cl, cm, cn, co, cp, cq, r3, cr, r4, cs, ct, cu, r5, cv, r6, eJ, qk, ql, qm, qn⟩ rx ⟨rfl, aY, dS, dT, dU, dV, dW, dX⟩
       replace h := lC
       try dsimp only at h aY dS dT dU dV dW dX
       refine (show At _ _ _ [(6, pt bs 0), (7, pt bt 0), (10, pt bS 0), (11, pt ce 0)] _ from ?_)
       refine th (sq (WC.drawH [13] [0, 1, 2] eJ 5 fmix z (by kernel_rfl) ?_))
       intro qF U
       refine WD.y 0 z (by kernel_rfl) (fun qG ry dY => have eK := dX.st U z; have eL := eK.st dY z; yL ty32 z z (eL.cells 0 [vB true, vi a1.Start, vi a1.Time, vi a1.Int_, vu a1.Re, vu a1.Im, vi cs, vu ct, vi cu, qm, vi cv, qn] z) z) z (WD.y 1 z (by kernel_rfl) (fun qH rz dZ => have eM := dU.st U z; have eN := eM.st dZ z; yL ty37 z z (eN.cells 0 [vs a.Name, (Value.slice P Q S), vi a.Kind, vi 2, vB a.Mono, vi a0.Time, vi a.Time, vi cl, vu cm, vu cn, vi co, vu cp, vi cq, qk, vi cr, ql, vi av] z) z) z (WD.heavy 2 z (by kernel_rfl) ?_))
       have cA := dV.f U z
       have eO := h
       obtain ⟨bB, bC, bD, rfl⟩ := cA.shape
       have h := eO
       have cC := dW.f U z
       have eP := h
       obtain ⟨bE, bF, bG, rfl⟩ := cC.shape
       have h := eP
       have eQ := cH.st T z
       have eR := eQ.st r z
       have eS := eR.st M z
       have eT := eS.st H z
       have eU := eT.st C z
       have eV := eU.st q z
       have eW := eV.st j z
       have eX := eW.st l z
       have eY := eX.st d z
       have eZ := eY.st E z
       have e0 := eZ.st n z
       have e1 := e0.st e z
       have e2 := e1.st m z
       have e5 := e2.st G z
       have e6 := e5.st D z
       have e7 := e6.st t z
       have e8 := e7.st o z
       have e9 := e8.st p z
       have fa := e9.st aY z
       have fb := fa.st U z
       refine WL.store (v := ag [vB true, vi a1.Start, vi a1.Time, vi a1.Int_, vu a1.Re, vu a1.Im, vi cs, vu ct, vi cu, (Value.slice bB bC bD), vi cv, (Value.slice bE bF bG)]) (cells' := [vB true, vi a1.Start, vi a1.Time, vi a1.Int_, vu a1.Re, vu a1.Im, vi cs, vu ct, vi cu, (Value.slice bB bC bD), vi cv, (Value.slice bE bF bG)]) ty32 z z fb z (le_ z) z z ?_
       intro qI ao fc
       refine nl (At.dq (su_ ao z) (WD.phase [14] [0, 1, 2, 3, 4] (by kernel_rfl) (by kernel_rfl) (WD.heavy 3 z (by kernel_rfl) ?_)))
       have fd := dS.f U z
       have cD := fd.f ao z
       have fe := h
       obtain ⟨bH, bI, bJ, rfl⟩ := cD.shape
       have h := fe
       have ff := dT.f U z
       have cE := ff.f ao z
       have fg := h
       obtain ⟨bK, bL, bM, rfl⟩ := cE.shape
       have h := fg
       have fh := cI.st r z
       have fi := fh.st M z
       have fj := fi.st H z
       have fk := fj.st C z
       have fl := fk.st q z
       have fm := fl.st j z
       have fn := fm.st l z
       have fo := fn.st d z
       have fp := fo.st E z
       have fq := fp.st n z
       have fr := fq.st e z
       have fs := fr.st m z
       have ft := fs.st G z
       have fu := ft.st D z
       have fv := fu.st t z
       have fw := fv.st o z
       have fx := fw.st p z
       have fy := fx.st aY z
       have fz := fy.st U z
       have fA := fz.st ao z
       refine WL.store (v := ag [vs a.Name, (Value.slice P Q S), vi a.Kind, vi 2, vB a.Mono, vi a0.Time, vi a.Time, vi cl, vu cm, vu cn, vi co, vu cp, vi cq, (Value.slice bH bI bJ), vi cr, (Value.slice bK bL bM), vi av]) (cells' := [vs a.Name, (Value.slice P Q S), vi a.Kind, vi 2, vB a.Mono, vi a0.Time, vi a.Time, vi cl, vu cm, vu cn, vi co, vu cp, vi cq, (Value.slice bH bI bJ), vi cr, (Value.slice bK bL bM), vi av]) ty37 z z fA z (le_ z) z z ?_
       intro fB ap fC
       refine nl (At.dq (su_ ap z) (WD.y 4 z (by kernel_rfl) (fun _ _ _ => ya z) z (WD.done_ (by kernel_rfl) (th (rt ?_)))))
       obtain ⟨rfl, rfl, rfl⟩ := tup3 h
       have aF : Stp [12, 13, 14, 15, 16, 17, 18, 1001] (Lg.O0 A) w eJ fB := (tr_ (su_ aq z) (tr_ (su_ ac z) (tr_ (su_ V z) (tr_ (su_ T z) (tr_ (su_ r z) (tr_ (su_ M z) (tr_ (su_ H z) (tr_ (su_ C z) (tr_ (su_ q z) (tr_ (su_ j z) (tr_ (su_ l z) (tr_ (su_ d z) (tr_ (su_ E z) (tr_ (su_ n z) (tr_ (su_ e z) (tr_ (su_ m z) (tr_ (su_ G z) (tr_ (su_ D z) (tr_ (su_ t z) (tr_ (su_ o z) (tr_ (su_ p z) (tr_ (su_ aY z) (tr_ (su_ U z) (tr_ (su_ ao z) (su_ ap z)))))))))))))))))))))))))
       have fD := cA.f ao z
       have fF := fD.f ap z
       have fG := cC.f ao z
       have fH := fG.f ap z
       have fI := cb.f j z
       have fJ := fI.f l z
       have fK := fJ.f d z
       have fL := fK.f E z
       have fN := fL.f n z
       have fO := fN.f e z
       have fP := fO.f m z
       have fQ := fP.f G z
       have fR := fQ.f D z
       have fT := fR.f t z
       have fU := fT.f o z
       have fV := fU.f p z
       have fY := fV.f aY z
       have f0 := fY.f U z
       have f1 := f0.f ao z
       have f2 := f1.f ap z
       have f3 := cD.f ap z
       have f4 := cE.f ap z
       have f5 := fc.st ap z
       exact At.res (.inl z) z (.cell z (f5.runAg 0 [vB true, vi a1.Start, vi a1.Time, vi a1.Int_, vu a1.Re, vu a1.Im, vi cs, vu ct, vi cu, (Value.slice bB bC bD), vi cv, (Value.slice bE bF bG)] ty32 z z z) (.cell z (fC.runAg 0 [vs a.Name, (Value.slice P Q S), vi a.Kind, vi 2, vB a.Mono, vi a0.Time, vi a.Time, vi cl, vu cm, vu cn, vi co, vu cp, vi cq, (Value.slice bH bI bJ), vi cr, (Value.slice bK bL bM), vi av] ty37 z z z) (.tmp z .nil))) ⟨(Value.slice bB bC bD), (Value.slice bE bF bG), (Value.slice P Q S), (Value.slice bH bI bJ), (Value.slice bK bL bM), z, (se_ aF z z), (Sl.outF fF aF low0), (Sl.outF fH aF low0), (Sl.outF f2 aF low0), (Sl.outF f3 aF low0), (Sl.outF f4 aF low0)⟩
theorem c_law16_TocumMirror {A : Nat → Prop} {a0 : List api_Point} {v0 : Value} {a1 : Int} {w : World} (hs0 : Sl rep_api_Point w A v0 a0) {r0 : Bool} (h : law16_TocumMirror a0 a1 = some r0) : Rets Try.prog 10 [v0, vi a1] w (fun v w' => v = vB r0 ∧ Ext w w') := by
 unfold law16_TocumMirror at h
 refine Rets.enter Try.func10 z z ?_
 have ej : Sl rep_api_Point w (imm (Lg.O0 A)) v0 a0 := (Sl.start hs0)
 refine (show WC _ _ _ _ [(0, v0), (1, vi a1)] _ from ?_)
 refine sq (rg (wY (ya z) z (nl (th (sq (sq (rg ?_)))))))
 obtain ⟨gC, ek, h⟩ := bnd h
 refine WL.call (vals := []) kok16 z z (c_law16_awake ek) ?_
 rintro gc em ⟨rfl, en⟩
 obtain ⟨ef, fg, fh, K⟩ := adoptE (Lg.O0 A) (fun k => 1) en
 refine wY (Y.not z) z (nl (th ?_))
 rcases cnd h with ⟨aI, h⟩ | ⟨aI, h⟩
 ·refine WC.condT' z aI (sq (rg (wY (ya z) z (nl (th (rt (At.thenR ?_)))))))
  obtain rfl := some1 h
  have eo : Stp [] (Lg.O0 A) w ef em := (su_ K z)
  exact At.res (.inl z) z (.tmp z .nil) ⟨z, (se_ eo z z)⟩
 ·refine WC.condF' z aI (sk (th (sq (sq (rg (wY (ym z) z ?_))))))
  have ar := ej.i K z z
  obtain ⟨aO, ep, h⟩ := bnd h
  refine WL.call (vals := [v0]) kok29 z z (c_law16_one (A := fun _ => True) (Sl.all ar) ep) ?_
  rintro gd aJ ⟨rfl, er⟩
  obtain ⟨aF, fi, fj, J⟩ := adoptE ef (fun k => 1) er
  refine wY (Y.not z) z (wY (ym z) z ?_)
  refine WL.cut 4 (σ := Unit) (fun _ w' => aJ = w') (fun _ => [(0, v0), (1, vi a1), (22, vB ((!aO) || (decide ((a0.length : Int) = 0))))]) ?_ ?_
  ·refine WL.part 18 z (fun aK => ?_) (fun aK => ?_)
   ·refine WL.gS z z z z (WL.gS z z z z (WL.gS z z z z (wY (Y.pick (b := true) z z) z (WL.ren (v' := vB ((!aO) || (decide ((a0.length : Int) = 0)))) 22 z (congrArg vB (orT aK)) ?_))))
    exact nl (At.join () z (.cons z (.cons z (.cons z .nil))))
   ·refine ug z z (wY (ym z) z (ug z z ?_))
    have es := ar.i J z z
    refine wY (Y.len ty22 z es) z (ug z z (wY (Y.eql_i z z) z (wY (Y.pick (b := false) z z) z (WL.ren (v' := vB ((!aO) || (decide ((a0.length : Int) = 0)))) 22 z (congrArg vB (orF aK)) ?_))))
    exact nl (At.join () z (.cons z (.cons z (.cons z .nil))))
  ·rintro _ _ rfl
   refine (show WL _ _ _ _ _ [(0, v0), (1, vi a1), (22, vB ((!aO) || (decide ((a0.length : Int) = 0))))] _ from ?_)
   refine wY (ym z) z ?_
   obtain ⟨fk, h, et⟩ := bnd h
   refine WL.cut 6 (σ := Bool) (fun x w' => x = fk ∧ aJ = w') (fun x => [(0, v0), (1, vi a1), (29, vB x)]) ?_ ?_
   ·rcases cnd h with ⟨aL, h⟩ | ⟨aL, h⟩
    ·refine WL.ren 23 z (congrArg vB aL) (WL.gS z z z z (WL.gS z z z z (WL.gS z z z z (WL.gS z z z z (WL.gS z z z z (wY (Y.pick (b := true) z z) z ?_))))))
     exact nl (At.join (σ := Bool) true ⟨some1 h, z⟩ (.cons z (.cons z (.cons z .nil))))
    ·refine WL.ren 23 z (congrArg vB aL) (ug z z (wY (ym z) z (ug z z ?_)))
     obtain ⟨F, eu, h⟩ := bnd h
     have ew := ar.i J z z
     obtain ⟨gE, fB, fC, ge, ex, ey, ez, aM, bU, eA⟩ := Sl.at2 ew eu
     obtain ⟨_, _, rfl, rfl, ⟨_, _, rfl, ⟨fl, rfl, gf⟩, ⟨_, _, rfl, rfl, ⟨_, _, rfl, rfl, ⟨_, _, rfl, rfl, ⟨_, _, rfl, rfl, ⟨_, _, rfl, rfl, ⟨_, _, rfl, rfl, ⟨_, _, rfl, rfl, ⟨_, _, rfl, rfl, ⟨_, _, rfl, ⟨_, _, rfl, rfl, ⟨_, _, rfl, rfl, ⟨_, _, rfl, ⟨_, _, rfl, rfl, ⟨fm, rfl, gg⟩⟩, ⟨_, _, rfl, rfl, ⟨fn, rfl, gh⟩⟩⟩⟩⟩, rfl⟩⟩⟩⟩⟩⟩⟩⟩⟩⟩⟩ := bU
     replace aM : CellsAt _ _ _ [vs F.Name, fl, vi F.Kind, vi F.Temp, vB F.Mono, vi F.Start, vi F.Time, vi F.Int_, vu F.Re, vu F.Im, vi F.Hist.Scale, vu F.Hist.Zero, vi F.Hist.Pos.Offset, fm, vi F.Hist.Neg.Offset, fn, vi F.Flags] := aM
     have bW := CAt.imm aM eA
     refine wY (Y.indexAddr ty22 ty37 z ex z ey ez) z (ug z z (wY (yf fo37_2 z) z (ug z z (wY (yl ty3 z z (bW.at_.sub 2 [vi F.Kind] z)) z (ug z z (wY (Y.neq_i z z) z (wY (Y.pick (b := false) z z) z ?_)))))))
     exact nl (At.join (σ := Bool) (!decide (F.Kind = 1)) ⟨some1 h, z⟩ (.cons z (.cons z (.cons z .nil))))
   ·rintro fo _ ⟨rfl, rfl⟩
    replace h := et
    try dsimp only at h
    refine (show WL _ _ _ _ _ [(0, v0), (1, vi a1), (29, vB fo)] _ from ?_)
    refine nl (th ?_)
    rcases cnd h with ⟨aN, h⟩ | ⟨aN, h⟩
    ·refine WC.condT' z aN (sq (rg (wY (ya z) z (nl (th (rt (At.thenR ?_)))))))
     obtain rfl := some1 h
     have eB : Stp [] (Lg.O0 A) w aF aJ := (tr_ (su_ K z) (su_ J z))
     exact At.res (.inl z) z (.tmp z .nil) ⟨z, (se_ eB z z)⟩
    ·refine WC.condF' z aN (sk (th (sq (rg (wY (ym z) z (wY (ym z) z ?_))))))
     have eC := ar.i J z z
     obtain ⟨⟨eg, eh⟩, eD, h⟩ := bnd h
     refine WL.call (vals := [v0, vi a1]) kok30 z z (c_law16_play (A := imm aF) eC eD) ?_
     rintro gi a5 ⟨ad, ae, rfl, eE, fp, fq⟩
     obtain ⟨a6, aG, aH, au⟩ := adoptE aF (fun k => 1) eE
     have a7 : Sl rep_api_Point a5 (imm a6) ad eg := Sl.adoptI (O := aF) fp (fun _ hk => hk) (fun _ _ => Nat.le_refl _) aG aH
     have eF : Sl rep_api_Point a5 (imm a6) ae eh := Sl.adoptI (O := aF) fq (fun _ hk => hk) (fun _ _ => Nat.le_refl _) aG aH
     refine wY (ym z) z (wY (yx z z) z (wY (yx z z) z (wY (ya z) z (wY (ya z) z (nl (th (sq (rg (wY (yb (vals := []) (cells := [vB false, vi 0, vi 0, vi 0, vu 0, vu 0, vi 0, vu 0, vi 0, Value.slice none 0 0, vi 0, Value.slice none 0 0]) (fe_ z) (by kernel_rfl)) z ?_)))))))))
     refine WL.alloc (O := a6) 11 [vB false, vi 0, vi 0, vi 0, vu 0, vu 0, vi 0, vu 0, vi 0, Value.slice none 0 0, vi 0, Value.slice none 0 0] ty32 z z ?_
     intro af a8 gj L eG
     refine WL.store (v := ag [vB false, vi 0, vi 0, vi 0, vu 0, vu 0, vi 0, vu 0, vi 0, Value.slice none 0 0, vi 0, Value.slice none 0 0]) (cells' := [vB false, vi 0, vi 0, vi 0, vu 0, vu 0, vi 0, vu 0, vi 0, Value.slice none 0 0, vi 0, Value.slice none 0 0]) ty32 z z eG z (le_ z) z z ?_
     intro a9 M eH
     refine nl (th (sq (sq (rg (wY (ya z) z (nl (th (WC.block ?_))))))))
     obtain ⟨ba, h, av⟩ := flow1 h
     obtain ⟨bb, h⟩ := loop_some h
     refine WC.joinB 0 (σ := Own) (fun x w' => ba = .go () ∧ Stp [11, 12, 13, 14] a8 a9 x w') (fun x => []) ?_ ?_
     ·refine WC.loop (σ := (Bool × Int × Int × Int × UInt64 × UInt64 × Int × UInt64 × Int × List UInt64 × Int × List UInt64 × Int × Own × Value × Value)) (fun x k w' => loopN k (law16_TocumMirror_lp1 a1 eg eh) (x.1, x.2.1, x.2.2.1, x.2.2.2.1, x.2.2.2.2.1, x.2.2.2.2.2.1, x.2.2.2.2.2.2.1, x.2.2.2.2.2.2.2.1, x.2.2.2.2.2.2.2.2.1, x.2.2.2.2.2.2.2.2.2.1, x.2.2.2.2.2.2.2.2.2.2.1, x.2.2.2.2.2.2.2.2.2.2.2.1, x.2.2.2.2.2.2.2.2.2.2.2.2.1) = some ba ∧ Stp [11, 12, 13, 14] a8 a9 x.2.2.2.2.2.2.2.2.2.2.2.2.2.1 w' ∧ Sl Rep.u w' (frs x.2.2.2.2.2.2.2.2.2.2.2.2.2.1) x.2.2.2.2.2.2.2.2.2.2.2.2.2.2.1 x.2.2.2.2.2.2.2.2.2.1 ∧ Sl Rep.u w' (frs x.2.2.2.2.2.2.2.2.2.2.2.2.2.1) x.2.2.2.2.2.2.2.2.2.2.2.2.2.2.2 x.2.2.2.2.2.2.2.2.2.2.2.1 ∧ Blk 11 x.2.2.2.2.2.2.2.2.2.2.2.2.2.1 w' af 32 [vB x.1, vi x.2.1, vi x.2.2.1, vi x.2.2.2.1, vu x.2.2.2.2.1, vu x.2.2.2.2.2.1, vi x.2.2.2.2.2.2.1, vu x.2.2.2.2.2.2.2.1, vi x.2.2.2.2.2.2.2.2.1, x.2.2.2.2.2.2.2.2.2.2.2.2.2.2.1, vi x.2.2.2.2.2.2.2.2.2.2.1, x.2.2.2.2.2.2.2.2.2.2.2.2.2.2.2]) (fun x => [(1, vi a1), (5, ad), (6, ae), (7, pt af 0), (8, vi x.2.2.2.2.2.2.2.2.2.2.2.2.1)]) (false, 0, 0, 0, 0, 0, 0, 0, 0, [], 0, [], 0, a8, Value.slice none 0 0, Value.slice none 0 0) bb (.cons z (.cons z (.cons z (.cons z (.cons z .nil))))) ⟨h, (sr_ _ _ _), (Or.inl ⟨z, z⟩), (Or.inl ⟨z, z⟩), eH⟩ ?_
      rintro ⟨bc, bd, bf, bg, bh, bi, bj, bk, bl, fr, bm, fs, ah, bn, ei, bo⟩ bb fD ⟨h, D, bp, aP, bq⟩
      obtain ⟨eI, gk, rfl, h, ac⟩ := rnd1 h
      unfold law16_TocumMirror_lp1 at h
      try dsimp only at h D bp aP bq
      refine (show WC _ _ _ _ [(1, vi a1), (5, ad), (6, ae), (7, pt af 0), (8, vi ah)] _ from ?_)
      refine sq (sq (rg (wY (ym z) z (wY (ym z) z ?_))))
      have bX := eF.i L z z
      have bY := bX.i M z z
      have aQ := bY.i D z z
      refine wY (Y.len ty22 z aQ) z (wY (Y.lss_i z z) z (nl (th ?_)))
      rcases cnd h with ⟨aw, h⟩ | ⟨aw, h⟩
      ·refine WC.condT' z aw (sk (th (sq (WC.block (sq (rg (wY (ym z) z (wY (ym z) z ?_))))))))
       obtain ⟨a, bZ, h⟩ := bnd h
       obtain ⟨gl, ft, fu, fF, b0, b1, b2, ax, br, b3⟩ := Sl.at2 aQ bZ
       obtain ⟨_, _, rfl, rfl, ⟨_, _, rfl, ⟨eJ, rfl, b4⟩, ⟨_, _, rfl, rfl, ⟨_, _, rfl, rfl, ⟨_, _, rfl, rfl, ⟨_, _, rfl, rfl, ⟨_, _, rfl, rfl, ⟨_, _, rfl, rfl, ⟨_, _, rfl, rfl, ⟨_, _, rfl, rfl, ⟨_, _, rfl, ⟨_, _, rfl, rfl, ⟨_, _, rfl, rfl, ⟨_, _, rfl, ⟨_, _, rfl, rfl, ⟨eK, rfl, b5⟩⟩, ⟨_, _, rfl, rfl, ⟨eL, rfl, b6⟩⟩⟩⟩⟩, rfl⟩⟩⟩⟩⟩⟩⟩⟩⟩⟩⟩ := br
       replace ax : CellsAt _ _ _ [vs a.Name, eJ, vi a.Kind, vi a.Temp, vB a.Mono, vi a.Start, vi a.Time, vi a.Int_, vu a.Re, vu a.Im, vi a.Hist.Scale, vu a.Hist.Zero, vi a.Hist.Pos.Offset, eK, vi a.Hist.Neg.Offset, eL, vi a.Flags] := ax
       have bs := CAt.imm ax b3
       refine wY (Y.indexAddr ty22 ty37 z b0 z b1 b2) z (wY (yL ty37 z z bs.at_ z) z (WL.alloc (O := bn) 12 [vs [], Value.slice none 0 0, vi 0, vi 0, vB false, vi 0, vi 0, vi 0, vu 0, vu 0, vi 0, vu 0, vi 0, Value.slice none 0 0, vi 0, Value.slice none 0 0, vi 0] ty37 z z ?_))
       intro gm eM fG m b7
       have aR := b4.i m z z
       have b8 := h
       obtain ⟨ai, aj, ak, rfl⟩ := aR.shape
       have h := b8
       have aS := b5.i m z z
       have b9 := h
       obtain ⟨al, am, an, rfl⟩ := aS.shape
       have h := b9
       have aT := b6.i m z z
       have ca := h
       obtain ⟨ao, ap, aq, rfl⟩ := aT.shape
       have h := ca
       refine WL.store (v := ag [vs a.Name, (Value.slice ai aj ak), vi a.Kind, vi a.Temp, vB a.Mono, vi a.Start, vi a.Time, vi a.Int_, vu a.Re, vu a.Im, vi a.Hist.Scale, vu a.Hist.Zero, vi a.Hist.Pos.Offset, (Value.slice al am an), vi a.Hist.Neg.Offset, (Value.slice ao ap aq), vi a.Flags]) (cells' := [vs a.Name, (Value.slice ai aj ak), vi a.Kind, vi a.Temp, vB a.Mono, vi a.Start, vi a.Time, vi a.Int_, vu a.Re, vu a.Im, vi a.Hist.Scale, vu a.Hist.Zero, vi a.Hist.Pos.Offset, (Value.slice al am an), vi a.Hist.Neg.Offset, (Value.slice ao ap aq), vi a.Flags]) ty37 z z b7 z (le_ z) z z ?_
       intro fH n cb
       refine nl (th (sq (rg (wY (yf fo37_11 z) z (WL.store (v := vi 0) (cells' := [vs a.Name, (Value.slice ai aj ak), vi a.Kind, vi a.Temp, vB a.Mono, vi a.Start, vi a.Time, vi a.Int_, vu a.Re, vu a.Im, vi a.Hist.Scale, vu a.Hist.Zero, vi a.Hist.Pos.Offset, (Value.slice al am an), vi a.Hist.Neg.Offset, (Value.slice ao ap aq), vi 0]) ty3 z z cb z (le_ z) z z ?_)))))
       intro fI o cc
       refine nl (th (sq (rg ?_)))
       have cd := bq.st m z
       have ce := cd.st n z
       have aU := ce.st o z
       refine wY (yL ty32 z z (aU.cells 0 [vB bc, vi bd, vi bf, vi bg, vu bh, vu bi, vi bj, vu bk, vi bl, ei, vi bm, bo] z) z) z (wY (yL ty37 z z (cc.cells 0 [vs a.Name, (Value.slice ai aj ak), vi a.Kind, vi a.Temp, vB a.Mono, vi a.Start, vi a.Time, vi a.Int_, vu a.Re, vu a.Im, vi a.Hist.Scale, vu a.Hist.Zero, vi a.Hist.Pos.Offset, (Value.slice al am an), vi a.Hist.Neg.Offset, (Value.slice ao ap aq), vi 0] z) z) z (wY (ym z) z ?_))
       have cf := bp.f m z
       have cg := cf.f n z
       have ch := cg.f o z
       have ci := aP.f m z
       have cj := ci.f n z
       have ck := cj.f o z
       have cl := aR.i n z z
       have cm := cl.i o z z
       have cn := aS.i n z z
       have co := cn.i o z z
       have cp := aT.i n z z
       have cq := cp.i o z z
       obtain ⟨⟨c, d, gn⟩, cr, h⟩ := bnd h
       refine WL.call (vals := [ag [vB bc, vi bd, vi bf, vi bg, vu bh, vu bi, vi bj, vu bk, vi bl, ei, vi bm, bo], ag [vs a.Name, (Value.slice ai aj ak), vi a.Kind, vi a.Temp, vB a.Mono, vi a.Start, vi a.Time, vi a.Int_, vu a.Re, vu a.Im, vi a.Hist.Scale, vu a.Hist.Zero, vi a.Hist.Pos.Offset, (Value.slice al am an), vi a.Hist.Neg.Offset, (Value.slice ao ap aq), vi 0], vi a1]) kok33 z z (c_todelta_Next (A := fun _ => True) (a0 := (api_State.mk bc bd bf bg bh bi (api_Hist.mk bj bk (api_Side.mk bl fr) (api_Side.mk bm fs)))) (a1 := (api_Point.mk a.Name a.Attrs a.Kind a.Temp a.Mono a.Start a.Time a.Int_ a.Re a.Im a.Hist 0)) (Sl.all ch) (Sl.all ck) (Sl.all cm) (Sl.all co) (Sl.all cq) cr) ?_
       rintro fJ Q ⟨eN, eO, eP, eQ, eR, rfl, cs, eS, eT, eU, eV, eW⟩
       obtain ⟨U, ff, H, I⟩ := adoptE eM (fun k => 1) cs
       have ct : Sl Rep.u Q (frs U) eN c.Hist.Pos.Counts := Sl.adoptF eS (fun k hk => ⟨hk, z⟩) H
       have cu : Sl Rep.u Q (frs U) eO c.Hist.Neg.Counts := Sl.adoptF eT (fun k hk => ⟨hk, z⟩) H
       have cv : Sl rep_api_Pair Q (frs U) eP d.Attrs := Sl.adoptF eU (fun k hk => ⟨hk, z⟩) H
       have cw : Sl Rep.u Q (frs U) eQ d.Hist.Pos.Counts := Sl.adoptF eV (fun k hk => ⟨hk, z⟩) H
       have cx : Sl Rep.u Q (frs U) eR d.Hist.Neg.Counts := Sl.adoptF eW (fun k hk => ⟨hk, z⟩) H
       refine wY (ym z) z (wY (yx z z) z (wY (yx z z) z (wY (yx z z) z (WL.alloc (O := U) 13 [vB false, vi 0, vi 0, vi 0, vu 0, vu 0, vi 0, vu 0, vi 0, Value.slice none 0 0, vi 0, Value.slice none 0 0] ty32 z z ?_))))
       intro bt eX fK p cy
       refine WL.alloc (O := eX) 14 [vs [], Value.slice none 0 0, vi 0, vi 0, vB false, vi 0, vi 0, vi 0, vu 0, vu 0, vi 0, vu 0, vi 0, Value.slice none 0 0, vi 0, Value.slice none 0 0, vi 0] ty37 z z ?_
       intro bu P fL e cz
       have cA := ct.f p z
       have aW := cA.f e z
       have cC := h
       obtain ⟨V, W, X, rfl⟩ := aW.shape
       have h := cC
       have cD := cu.f p z
       have aX := cD.f e z
       have cE := h
       obtain ⟨Z, aa, ab, rfl⟩ := aX.shape
       have h := cE
       have cF := cy.st e z
       refine WL.store (v := ag [vB c.Some, vi c.Start, vi c.Time, vi c.Int_, vu c.Re, vu c.Im, vi c.Hist.Scale, vu c.Hist.Zero, vi c.Hist.Pos.Offset, (Value.slice V W X), vi c.Hist.Neg.Offset, (Value.slice Z aa ab)]) (cells' := [vB c.Some, vi c.Start, vi c.Time, vi c.Int_, vu c.Re, vu c.Im, vi c.Hist.Scale, vu c.Hist.Zero, vi c.Hist.Pos.Offset, (Value.slice V W X), vi c.Hist.Neg.Offset, (Value.slice Z aa ab)]) ty32 z z cF z (le_ z) z z ?_
       intro fN j cG
       have cH := cv.f p z
       have cI := cH.f e z
       have cJ := cI.f j z
       have cK := h
       obtain ⟨bw, bx, bz, rfl⟩ := cJ.shape
       have h := cK
       have cL := cw.f p z
       have cM := cL.f e z
       have cN := cM.f j z
       have cO := h
       obtain ⟨bA, bB, bC, rfl⟩ := cN.shape
       have h := cO
       have cP := cx.f p z
       have cQ := cP.f e z
       have cR := cQ.f j z
       have cS := h
       obtain ⟨bD, bE, bF, rfl⟩ := cR.shape
       have h := cS
       have cT := cz.st j z
       refine WL.store (v := ag [vs d.Name, (Value.slice bw bx bz), vi d.Kind, vi d.Temp, vB d.Mono, vi d.Start, vi d.Time, vi d.Int_, vu d.Re, vu d.Im, vi d.Hist.Scale, vu d.Hist.Zero, vi d.Hist.Pos.Offset, (Value.slice bA bB bC), vi d.Hist.Neg.Offset, (Value.slice bD bE bF), vi d.Flags]) (cells' := [vs d.Name, (Value.slice bw bx bz), vi d.Kind, vi d.Temp, vB d.Mono, vi d.Start, vi d.Time, vi d.Int_, vu d.Re, vu d.Im, vi d.Hist.Scale, vu d.Hist.Zero, vi d.Hist.Pos.Offset, (Value.slice bA bB bC), vi d.Hist.Neg.Offset, (Value.slice bD bE bF), vi d.Flags]) ty37 z z cT z (le_ z) z z ?_
       intro fO C ay
       refine wY (ya z) z (nl (th (sq (sq (WC.drawH [] [0, 1, 2, 3, 4, 5, 6, 7, 8, 9, 10, 11] P 12 fmix z (by kernel_rfl) ?_)))))
       intro aY l
       refine WD.y 0 z (by kernel_rfl) (fun _ _ _ => ym z) z (WD.y 1 z (by kernel_rfl) (fun _ _ _ => Y.neq_i z z) z (WD.y 2 z (by kernel_rfl) (fun _ _ _ => ym z) z ?_))
       obtain ⟨eY, h, cU⟩ := bnd h
       refine WD.join (σ := Bool) (f' := 0) [11, 10, 9, 8, 7, 6, 5, 4, 3, 2, 1, 0] (fun x O' w' => x = eY ∧ aY = w' ∧ P = O') (fun x => [(1, vi a1), (5, ad), (6, ae), (7, pt af 0), (8, vi ah), (10, pt bt 0), (11, pt bu 0), (67, vB x)]) (fun aZ => ?_) ?_
       ·rcases cnd h with ⟨S, h⟩ | ⟨S, h⟩
        ·refine WD.ren 58 z (congrArg vB S) (WD.gS 3 z (by kernel_rfl) z z z z (WD.gS 4 z (by kernel_rfl) z z z z (WD.gS 5 z (by kernel_rfl) z z z z (WD.gS 6 z (by kernel_rfl) z z z z (WD.gS 7 z (by kernel_rfl) z z z z (WD.gS 8 z (by kernel_rfl) z z z z (WD.gS 9 z (by kernel_rfl) z z z z (WD.gS 10 z (by kernel_rfl) z z z z (WD.y 11 z (by kernel_rfl) (fun _ _ _ => Y.pick (b := true) z z) z ?_)))))))))
         refine WD.ren 58 z (congrArg vB S.symm) ?_
         exact aZ true _ _ _ ⟨some1 h, z, z⟩ (.cons z (.cons z (.cons z (.cons z (.cons z (.cons z (.cons z (.cons z .nil))))))))
        ·refine WD.ren 58 z (congrArg vB S) (WD.gT 3 z (by kernel_rfl) z z (fun _ _ _ => yf fo37_6 z) z (WD.gT 4 z (by kernel_rfl) z z (fun fP gp bG => have cV := ay.st l z; have cW := cV.st bG z; yl ty3 z z (cW.cell 6 _ z)) z (WD.gT 5 z (by kernel_rfl) z z (fun _ _ _ => ym z) z (WD.gT 6 z (by kernel_rfl) z z (fun _ _ _ => ym z) z ?_))))
         obtain ⟨q, cX, h⟩ := bnd h
         have cY := a7.i L z z
         have cZ := cY.i M z z
         have c0 := cZ.i D z z
         have c1 := c0.i m z z
         have c2 := c1.i n z z
         have c3 := c2.i o z z
         have c4 := c3.i I z z
         have c5 := c4.i p z z
         have c6 := c5.i e z z
         have c7 := c6.i j z z
         have c8 := c7.i C z z
         have c9 := c8.i l z z
         obtain ⟨gq, fv, fw, fQ, da, db, dc, az, bH, dd⟩ := Sl.at2 c9 cX
         obtain ⟨_, _, rfl, rfl, ⟨_, _, rfl, ⟨eZ, rfl, fR⟩, ⟨_, _, rfl, rfl, ⟨_, _, rfl, rfl, ⟨_, _, rfl, rfl, ⟨_, _, rfl, rfl, ⟨_, _, rfl, rfl, ⟨_, _, rfl, rfl, ⟨_, _, rfl, rfl, ⟨_, _, rfl, rfl, ⟨_, _, rfl, ⟨_, _, rfl, rfl, ⟨_, _, rfl, rfl, ⟨_, _, rfl, ⟨_, _, rfl, rfl, ⟨e0, rfl, fT⟩⟩, ⟨_, _, rfl, rfl, ⟨e1, rfl, fU⟩⟩⟩⟩⟩, rfl⟩⟩⟩⟩⟩⟩⟩⟩⟩⟩⟩ := bH
         replace az : CellsAt _ _ _ [vs q.Name, eZ, vi q.Kind, vi q.Temp, vB q.Mono, vi q.Start, vi q.Time, vi q.Int_, vu q.Re, vu q.Im, vi q.Hist.Scale, vu q.Hist.Zero, vi q.Hist.Pos.Offset, e0, vi q.Hist.Neg.Offset, e1, vi q.Flags] := az
         have bI := CAt.imm az dd
         refine WD.gT 7 z (by kernel_rfl) z z (fun _ _ _ => Y.indexAddr ty22 ty37 z da z db dc) z (WD.gT 8 z (by kernel_rfl) z z (fun _ _ _ => yf fo37_6 z) z (WD.gT 9 z (by kernel_rfl) z z (fun fV gr bJ => have de := bI.st bJ z; yl ty3 z z (de.at_.sub 6 [vi q.Time] z)) z (WD.gT 10 z (by kernel_rfl) z z (fun _ _ _ => Y.neq_i z z) z (WD.y 11 z (by kernel_rfl) (fun _ _ _ => Y.pick (b := false) z z) z (WD.ren 58 z (congrArg vB S.symm) ?_)))))
         exact aZ (!decide (d.Time = q.Time)) _ _ _ ⟨some1 h, z, z⟩ (.cons z (.cons z (.cons z (.cons z (.cons z (.cons z (.cons z (.cons z .nil))))))))
       ·rintro e2 _ _ ⟨rfl, rfl, rfl⟩
        replace h := cU
        try dsimp only at h
        refine (show WD _ _ _ _ _ _ _ _ [(1, vi a1), (5, ad), (6, ae), (7, pt af 0), (8, vi ah), (10, pt bt 0), (11, pt bu 0), (67, vB e2)] _ _ from ?_)
        refine WD.done_ (by kernel_rfl) (th ?_)
        rcases cnd h with ⟨aA, h⟩ | ⟨aA, h⟩
        ·refine WC.condT' z aA (sq (rg (wY (ya z) z (nl (th (rt (At.thenR (At.inBlockR (At.thenR ?_)))))))))
         refine At.loopR ?_
         have h := outr1 h ac av
         refine At.joinBR (At.inBlockR (At.thenR ?_))
         obtain rfl := some1 h
         have df : Stp [11, 12, 13, 14] (Lg.O0 A) w P aY := (tr_ (su_ K z) (tr_ (su_ J z) (tr_ (su_ au z) (tr_ (su_ L z) (tr_ (su_ M z) (tr_ (su_ D z) (tr_ (su_ m z) (tr_ (su_ n z) (tr_ (su_ o z) (tr_ (su_ I z) (tr_ (su_ p z) (tr_ (su_ e z) (tr_ (su_ j z) (tr_ (su_ C z) (su_ l z)))))))))))))))
         exact At.res (.inl z) z (.tmp z .nil) ⟨z, (se_ df z z)⟩
        ·refine WC.condF' z aA (sk (th (sq (rg ?_))))
         have dg := cG.st C z
         have dh := dg.st l z
         refine wY (yL ty32 z z (dh.cells 0 [vB c.Some, vi c.Start, vi c.Time, vi c.Int_, vu c.Re, vu c.Im, vi c.Hist.Scale, vu c.Hist.Zero, vi c.Hist.Pos.Offset, (Value.slice V W X), vi c.Hist.Neg.Offset, (Value.slice Z aa ab)] z) z) z ?_
         have di := aU.st I z
         have dj := di.st p z
         have dk := dj.st e z
         have dl := dk.st j z
         have dm := dl.st C z
         have dn := dm.st l z
         refine WL.store (v := ag [vB c.Some, vi c.Start, vi c.Time, vi c.Int_, vu c.Re, vu c.Im, vi c.Hist.Scale, vu c.Hist.Zero, vi c.Hist.Pos.Offset, (Value.slice V W X), vi c.Hist.Neg.Offset, (Value.slice Z aa ab)]) (cells' := [vB c.Some, vi c.Start, vi c.Time, vi c.Int_, vu c.Re, vu c.Im, vi c.Hist.Scale, vu c.Hist.Zero, vi c.Hist.Pos.Offset, (Value.slice V W X), vi c.Hist.Neg.Offset, (Value.slice Z aa ab)]) ty32 z z dn z (le_ z) z z ?_
         intro fY G dp
         refine nl (th (sq (WC.drawH [] [0, 1, 2, 3, 4, 5, 6, 7, 8, 9, 10, 11, 12, 13, 14, 15, 16, 17] P 18 fmix z (by kernel_rfl) ?_)))
         intro a2 E
         refine WD.y 0 z (by kernel_rfl) (fun _ _ _ => yf fo37_7 z) z (WD.y 1 z (by kernel_rfl) (fun f0 gs bK => have dr := ay.st l z; have ds := dr.st G z; have dt := ds.st E z; have du := dt.st bK z; yl ty3 z z (du.cell 7 _ z)) z (WD.y 2 z (by kernel_rfl) (fun _ _ _ => ym z) z (WD.y 3 z (by kernel_rfl) (fun _ _ _ => ym z) z ?_)))
         obtain ⟨t, dw, h⟩ := bnd h
         have dx := a7.i L z z
         have dy := dx.i M z z
         have dz := dy.i D z z
         have dA := dz.i m z z
         have dB := dA.i n z z
         have dC := dB.i o z z
         have dD := dC.i I z z
         have dE := dD.i p z z
         have dF := dE.i e z z
         have dG := dF.i j z z
         have dH := dG.i C z z
         have dI := dH.i l z z
         have dJ := dI.i G z z
         have a3 := dJ.i E z z
         obtain ⟨gt, fx, fy, f1, dK, dL, dM, aC, bL, dN⟩ := Sl.at2 a3 dw
         obtain ⟨_, _, rfl, rfl, ⟨_, _, rfl, ⟨e5, rfl, f2⟩, ⟨_, _, rfl, rfl, ⟨_, _, rfl, rfl, ⟨_, _, rfl, rfl, ⟨_, _, rfl, rfl, ⟨_, _, rfl, rfl, ⟨_, _, rfl, rfl, ⟨_, _, rfl, rfl, ⟨_, _, rfl, rfl, ⟨_, _, rfl, ⟨_, _, rfl, rfl, ⟨_, _, rfl, rfl, ⟨_, _, rfl, ⟨_, _, rfl, rfl, ⟨e6, rfl, f3⟩⟩, ⟨_, _, rfl, rfl, ⟨e7, rfl, f4⟩⟩⟩⟩⟩, rfl⟩⟩⟩⟩⟩⟩⟩⟩⟩⟩⟩ := bL
         replace aC : CellsAt _ _ _ [vs t.Name, e5, vi t.Kind, vi t.Temp, vB t.Mono, vi t.Start, vi t.Time, vi t.Int_, vu t.Re, vu t.Im, vi t.Hist.Scale, vu t.Hist.Zero, vi t.Hist.Pos.Offset, e6, vi t.Hist.Neg.Offset, e7, vi t.Flags] := aC
         have bM := CAt.imm aC dN
         refine WD.y 4 z (by kernel_rfl) (fun _ _ _ => Y.indexAddr ty22 ty37 z dK z dL dM) z (WD.y 5 z (by kernel_rfl) (fun _ _ _ => yf fo37_7 z) z (WD.y 6 z (by kernel_rfl) (fun f5 gu bO => have dO := bM.st bO z; yl ty3 z z (dO.at_.sub 7 [vi t.Int_] z)) z (WD.y 7 z (by kernel_rfl) (fun _ _ _ => Y.neq_i z z) z (WD.y 8 z (by kernel_rfl) (fun _ _ _ => ym z) z ?_))))
         obtain ⟨e8, h, dP⟩ := bnd h
         refine WD.join (σ := Bool) (f' := 0) [17, 16, 15, 14, 13, 12, 11, 10, 9, 8, 7, 6, 5, 4, 3, 2, 1, 0] (fun x O' w' => x = e8 ∧ a2 = w' ∧ P = O') (fun x => [(1, vi a1), (5, ad), (6, ae), (7, pt af 0), (8, vi ah), (86, vB x)]) (fun a4 => ?_) ?_
         ·rcases cnd h with ⟨T, h⟩ | ⟨T, h⟩
          ·refine WD.ren 77 z (congrArg vB T) (WD.gS 9 z (by kernel_rfl) z z z z (WD.gS 10 z (by kernel_rfl) z z z z (WD.gS 11 z (by kernel_rfl) z z z z (WD.gS 12 z (by kernel_rfl) z z z z (WD.gS 13 z (by kernel_rfl) z z z z (WD.gS 14 z (by kernel_rfl) z z z z (WD.gS 15 z (by kernel_rfl) z z z z (WD.gS 16 z (by kernel_rfl) z z z z (WD.y 17 z (by kernel_rfl) (fun _ _ _ => Y.pick (b := true) z z) z ?_)))))))))
           refine WD.ren 77 z (congrArg vB T.symm) ?_
           exact a4 true _ _ _ ⟨some1 h, z, z⟩ (.cons z (.cons z (.cons z (.cons z (.cons z (.cons z .nil))))))
          ·refine WD.ren 77 z (congrArg vB T) (WD.gT 9 z (by kernel_rfl) z z (fun _ _ _ => yf fo37_5 z) z (WD.gT 10 z (by kernel_rfl) z z (fun f6 gw bP => have dQ := ay.st l z; have dR := dQ.st G z; have dS := dR.st E z; have dT := dS.st bP z; yl ty3 z z (dT.cell 5 _ z)) z (WD.gT 11 z (by kernel_rfl) z z (fun _ _ _ => ym z) z (WD.gT 12 z (by kernel_rfl) z z (fun _ _ _ => ym z) z ?_))))
           obtain ⟨r, dU, h⟩ := bnd h
           obtain ⟨gz, fz, fA, f7, dV, dW, dX, aD, bQ, dY⟩ := Sl.at2 a3 dU
           obtain ⟨_, _, rfl, rfl, ⟨_, _, rfl, ⟨e9, rfl, f8⟩, ⟨_, _, rfl, rfl, ⟨_, _, rfl, rfl, ⟨_, _, rfl, rfl, ⟨_, _, rfl, rfl, ⟨_, _, rfl, rfl, ⟨_, _, rfl, rfl, ⟨_, _, rfl, rfl, ⟨_, _, rfl, rfl, ⟨_, _, rfl, ⟨_, _, rfl, rfl, ⟨_, _, rfl, rfl, ⟨_, _, rfl, ⟨_, _, rfl, rfl, ⟨fa, rfl, f9⟩⟩, ⟨_, _, rfl, rfl, ⟨fb, rfl, ga⟩⟩⟩⟩⟩, rfl⟩⟩⟩⟩⟩⟩⟩⟩⟩⟩⟩ := bQ
           replace aD : CellsAt _ _ _ [vs r.Name, e9, vi r.Kind, vi r.Temp, vB r.Mono, vi r.Start, vi r.Time, vi r.Int_, vu r.Re, vu r.Im, vi r.Hist.Scale, vu r.Hist.Zero, vi r.Hist.Pos.Offset, fa, vi r.Hist.Neg.Offset, fb, vi r.Flags] := aD
           have bR := CAt.imm aD dY
           refine WD.gT 13 z (by kernel_rfl) z z (fun _ _ _ => Y.indexAddr ty22 ty37 z dV z dW dX) z (WD.gT 14 z (by kernel_rfl) z z (fun _ _ _ => yf fo37_5 z) z (WD.gT 15 z (by kernel_rfl) z z (fun gb gB bS => have dZ := bR.st bS z; yl ty3 z z (dZ.at_.sub 5 [vi r.Start] z)) z (WD.gT 16 z (by kernel_rfl) z z (fun _ _ _ => Y.neq_i z z) z (WD.y 17 z (by kernel_rfl) (fun _ _ _ => Y.pick (b := false) z z) z (WD.ren 77 z (congrArg vB T.symm) ?_)))))
           exact a4 (!decide (d.Start = r.Start)) _ _ _ ⟨some1 h, z, z⟩ (.cons z (.cons z (.cons z (.cons z (.cons z (.cons z .nil))))))
         ·rintro fc _ _ ⟨rfl, rfl, rfl⟩
          replace h := dP
          try dsimp only at h
          refine (show WD _ _ _ _ _ _ _ _ [(1, vi a1), (5, ad), (6, ae), (7, pt af 0), (8, vi ah), (86, vB fc)] _ _ from ?_)
          refine WD.done_ (by kernel_rfl) (th ?_)
          rcases cnd h with ⟨aE, h⟩ | ⟨aE, h⟩
          ·refine WC.condT' z aE (sq (rg (wY (ya z) z (nl (th (rt (At.inBlockR (At.thenR (At.loopR ?_)))))))))
           have h := outr1 h ac av
           refine At.joinBR (At.inBlockR (At.thenR ?_))
           obtain rfl := some1 h
           have d0 : Stp [11, 12, 13, 14] (Lg.O0 A) w P a2 := (tr_ (su_ K z) (tr_ (su_ J z) (tr_ (su_ au z) (tr_ (su_ L z) (tr_ (su_ M z) (tr_ (su_ D z) (tr_ (su_ m z) (tr_ (su_ n z) (tr_ (su_ o z) (tr_ (su_ I z) (tr_ (su_ p z) (tr_ (su_ e z) (tr_ (su_ j z) (tr_ (su_ C z) (tr_ (su_ l z) (tr_ (su_ G z) (su_ E z)))))))))))))))))
           exact At.res (.inl z) z (.tmp z .nil) ⟨z, (se_ d0 z z)⟩
          ·refine WC.condF' z aE (sk (At.inBlock (th (rg (wY (ym z) z (wY (Y.add_i z z) z ?_))))))
           obtain ⟨fd, d1, h⟩ := lt1 h
           refine WL.yE (ya z) (congrArg vi d1.symm) z (nl ?_)
           have d2 := aW.f j z
           have d3 := d2.f C z
           have d4 := d3.f l z
           have d5 := d4.f G z
           have d6 := d5.f E z
           have d7 := aX.f j z
           have d8 := d7.f C z
           have d9 := d8.f l z
           have ea := d9.f G z
           have eb := ea.f E z
           have ec := dp.st E z
           exact At.round (c.Some, c.Start, c.Time, c.Int_, c.Re, c.Im, c.Hist.Scale, c.Hist.Zero, c.Hist.Pos.Offset, c.Hist.Pos.Counts, c.Hist.Neg.Offset, c.Hist.Neg.Counts, fd, P, (Value.slice V W X), (Value.slice Z aa ab)) eI (Nat.lt_succ_self _) ⟨next1 h ac, (tr_ (su_ D z) (tr_ (su_ m z) (tr_ (su_ n z) (tr_ (su_ o z) (tr_ (su_ I z) (tr_ (su_ p z) (tr_ (su_ e z) (tr_ (su_ j z) (tr_ (su_ C z) (tr_ (su_ l z) (tr_ (su_ G z) (su_ E z)))))))))))), d6, eb, ec⟩ (.cons z (.cons z (.cons z (.cons z (.cons z .nil)))))
      ·refine WC.condF' z aw (WC.exit (At.thenX (At.loopX ?_)))
       exact At.hitB (σ := Own) bn ⟨brk1 h ac, (su_ D z)⟩ .nil
     ·rintro fe ed ⟨rfl, bT⟩
      replace h := flowK_go av
      refine (show At _ _ _ [] _ from ?_)
      refine At.inBlockHit (th (sq (rg (wY (ya z) z (nl (th (rt ?_)))))))
      obtain rfl := some1 h
      have ee : Stp [11, 12, 13, 14] (Lg.O0 A) w fe ed := (tr_ (su_ K z) (tr_ (su_ J z) (tr_ (su_ au z) (tr_ (su_ L z) (tr_ (su_ M z) (su_ bT z))))))
      exact At.res (.inl z) z (.tmp z .nil) ⟨z, (se_ ee z z)⟩
end Go.Lg
