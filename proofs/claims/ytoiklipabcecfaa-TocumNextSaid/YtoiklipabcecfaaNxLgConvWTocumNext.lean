/- The walks of TocumNext and of what it calls, printed by gen.py. -/
import Derived.Test.YtoiklipabcecfaaNxLgConvWTocumNextx3
set_option linter.unusedVariables false
namespace Go.Lg
open Go Go.Proofs
set_option maxRecDepth 100000
set_option maxHeartbeats 4000000
theorem c_ref15_Finite {A : Nat → Prop} {a0 : List UInt64} {v0 : Value} {w : World} (hs0 : Sl Rep.u w A v0 a0) {r0 : Bool} (h : ref15_Finite a0 = some r0) : Rets Try.prog 81 [v0] w (fun v w' => v = vB r0 ∧ Ext w w') := by
 unfold ref15_Finite at h
 refine Rets.enter Try.func81 z z ?_
 have H : Sl Rep.u w (imm (Lg.O0 A)) v0 a0 := (Sl.start hs0)
 refine (show WC _ _ _ _ [(0, v0)] _ from ?_)
 refine sq (rg (wY (ya z) z (nl (th (sq (sq (rg (wY (ya z) z (nl ?_)))))))))
 refine th (WC.block ?_)
 obtain ⟨t, h, n⟩ := flow1 h
 obtain ⟨C, h⟩ := loop_some h
 refine WC.joinB 0 (σ := Own) (fun x w' => t = .go () ∧ Stp [] (Lg.O0 A) w x w') (fun x => []) ?_ ?_
 ·refine WC.loop (σ := (Int × Own)) (fun x k w' => loopN k (ref15_Finite_lp1 a0) x.1 = some t ∧ Stp [] (Lg.O0 A) w x.2 w') (fun x => [(0, v0), (3, vi x.1)]) (0, (Lg.O0 A)) C (.cons z (.cons z .nil)) ⟨h, (sr_ _ _ _)⟩ ?_
  rintro ⟨aa, D⟩ C aj ⟨h, c⟩
  obtain ⟨ab, am, rfl, h, d⟩ := rnd1 h
  unfold ref15_Finite_lp1 at h
  try dsimp only at h c
  refine (show WC _ _ _ _ [(0, v0), (3, vi aa)] _ from ?_)
  refine sq (sq (rg (wY (ym z) z (wY (ym z) z ?_))))
  have o := H.i c z z
  refine wY (Y.len ty26 z o) z (wY (Y.lss_i z z) z (nl (th ?_)))
  rcases cnd h with ⟨e, h⟩ | ⟨e, h⟩
  ·refine WC.condT' z e (sk (th (sq (WC.block (sq (rg (wY (ym z) z (wY (ym z) z ?_))))))))
   obtain ⟨F, I, h⟩ := bnd h
   obtain ⟨an, ah, ai, ak, J, K, L, j, p, M⟩ := Sl.at2 o I
   obtain rfl := p
   replace j : CellsAt _ _ _ [vu F] := j
   have q := CAt.imm j M
   refine wY (Y.indexAddr ty26 ty25 z J z K L) z (wY (yl ty25 z z q.at_) z ?_)
   obtain ⟨ao, Q, h⟩ := bnd h
   refine WL.call (vals := [vu F]) kok80 z z (c_ref05_Finite Q) ?_
   rintro al T ⟨rfl, U⟩
   obtain ⟨G, ac, ad, m⟩ := adoptE D (fun k => 1) U
   refine wY (Y.not z) z (nl (th ?_))
   rcases cnd h with ⟨l, h⟩ | ⟨l, h⟩
   ·refine WC.condT' z l (sq (rg (wY (ya z) z (nl (th (rt (At.inBlockR (At.thenR (At.loopR ?_)))))))))
    have h := outr1 h d n
    refine At.joinBR (At.inBlockR (At.thenR ?_))
    obtain rfl := some1 h
    have V : Stp [] (Lg.O0 A) w G T := (tr_ (su_ c z) (su_ m z))
    exact At.res (.inl z) z (.tmp z .nil) ⟨z, (se_ V z z)⟩
   ·refine WC.condF' z l (sk (At.inBlock (th (rg (wY (ym z) z (wY (Y.add_i z z) z ?_))))))
    obtain ⟨ae, W, h⟩ := lt1 h
    refine WL.yE (ya z) (congrArg vi W.symm) z (nl ?_)
    exact At.round (ae, G) ab (Nat.lt_succ_self _) ⟨next1 h d, (tr_ (su_ c z) (su_ m z))⟩ (.cons z (.cons z .nil))
  ·refine WC.condF' z e (WC.exit (At.thenX (At.loopX ?_)))
   exact At.hitB (σ := Own) D ⟨brk1 h d, (su_ c z)⟩ .nil
 ·rintro af X ⟨rfl, r⟩
  replace h := flowK_go n
  refine (show At _ _ _ [] _ from ?_)
  refine At.inBlockHit (th (sq (rg (wY (ya z) z (nl (th (rt ?_)))))))
  obtain rfl := some1 h
  have Z : Stp [] (Lg.O0 A) w af X := (su_ r z)
  exact At.res (.inl z) z (.tmp z .nil) ⟨z, (se_ Z z z)⟩
theorem c_ref16_sum {A : Nat → Prop} {v0_9 : Value} {v0_11 : Value} {a0 : api_State} {v1_1 : Value} {v1_13 : Value} {v1_15 : Value} {a1 : api_Point} {a2 : Int} {w : World} (hs0_9 : Sl Rep.u w A v0_9 a0.Hist.Pos.Counts) (hs0_11 : Sl Rep.u w A v0_11 a0.Hist.Neg.Counts) (hs1_1 : Sl rep_api_Pair w A v1_1 a1.Attrs) (hs1_13 : Sl Rep.u w A v1_13 a1.Hist.Pos.Counts) (hs1_15 : Sl Rep.u w A v1_15 a1.Hist.Neg.Counts) {r0 : api_State} {r1 : Bool} (h : ref16_sum a0 a1 a2 = some (r0, r1)) : Rets Try.prog 49 [ag [vB a0.Some, vi a0.Start, vi a0.Time, vi a0.Int_, vu a0.Re, vu a0.Im, vi a0.Hist.Scale, vu a0.Hist.Zero, vi a0.Hist.Pos.Offset, v0_9, vi a0.Hist.Neg.Offset, v0_11], ag [vs a1.Name, v1_1, vi a1.Kind, vi a1.Temp, vB a1.Mono, vi a1.Start, vi a1.Time, vi a1.Int_, vu a1.Re, vu a1.Im, vi a1.Hist.Scale, vu a1.Hist.Zero, vi a1.Hist.Pos.Offset, v1_13, vi a1.Hist.Neg.Offset, v1_15, vi a1.Flags], vi a2] w (fun v w' => ∃ (bi : Value) (a5 : Value), v = Value.tuple (List.toArray [ag [vB r0.Some, vi r0.Start, vi r0.Time, vi r0.Int_, vu r0.Re, vu r0.Im, vi r0.Hist.Scale, vu r0.Hist.Zero, vi r0.Hist.Pos.Offset, bi, vi r0.Hist.Neg.Offset, a5], vB r1]) ∧ Ext w w' ∧ Sl Rep.u w' (fun k => A k ∨ w.heap.size ≤ k) bi r0.Hist.Pos.Counts ∧ Sl Rep.u w' (fun k => A k ∨ w.heap.size ≤ k) a5 r0.Hist.Neg.Counts) := by
 unfold ref16_sum at h
 refine Rets.enter Try.func49 z z ?_
 have af : Sl Rep.u w (imm (Lg.O0 A)) v0_9 a0.Hist.Pos.Counts := (Sl.start hs0_9)
 have ah : Sl Rep.u w (imm (Lg.O0 A)) v0_11 a0.Hist.Neg.Counts := (Sl.start hs0_11)
 have g3 : Sl rep_api_Pair w (imm (Lg.O0 A)) v1_1 a1.Attrs := (Sl.start hs1_1)
 have g4 : Sl Rep.u w (imm (Lg.O0 A)) v1_13 a1.Hist.Pos.Counts := (Sl.start hs1_13)
 have g5 : Sl Rep.u w (imm (Lg.O0 A)) v1_15 a1.Hist.Neg.Counts := (Sl.start hs1_15)
 refine (show WC _ _ _ _ [(0, ag [vB a0.Some, vi a0.Start, vi a0.Time, vi a0.Int_, vu a0.Re, vu a0.Im, vi a0.Hist.Scale, vu a0.Hist.Zero, vi a0.Hist.Pos.Offset, v0_9, vi a0.Hist.Neg.Offset, v0_11]), (1, ag [vs a1.Name, v1_1, vi a1.Kind, vi a1.Temp, vB a1.Mono, vi a1.Start, vi a1.Time, vi a1.Int_, vu a1.Re, vu a1.Im, vi a1.Hist.Scale, vu a1.Hist.Zero, vi a1.Hist.Pos.Offset, v1_13, vi a1.Hist.Neg.Offset, v1_15, vi a1.Flags]), (2, vi a2)] _ from ?_)
 refine sq (rg ?_)
 have g6 := h
 obtain ⟨m, n, o, rfl⟩ := af.shape
 have h := g6
 have g7 := h
 obtain ⟨p, q, r, rfl⟩ := ah.shape
 have h := g7
 refine WL.box (O := (Lg.O0 A)) 11 [vB a0.Some, vi a0.Start, vi a0.Time, vi a0.Int_, vu a0.Re, vu a0.Im, vi a0.Hist.Scale, vu a0.Hist.Zero, vi a0.Hist.Pos.Offset, (Value.slice m n o), vi a0.Hist.Neg.Offset, (Value.slice p q r)] z z z ?_
 intro i5 ih iQ t g8
 have g9 := g3.i t z z
 have ha := h
 obtain ⟨ii, ij, ik, rfl⟩ := g9.shape
 have h := ha
 have bj := g4.i t z z
 have hc := h
 obtain ⟨bk, bl, bm, rfl⟩ := bj.shape
 have h := hc
 have bn := g5.i t z z
 have hd := h
 obtain ⟨bo, bp, bq, rfl⟩ := bn.shape
 have h := hd
 refine WL.box (O := ih) 12 [vs a1.Name, (Value.slice ii ij ik), vi a1.Kind, vi a1.Temp, vB a1.Mono, vi a1.Start, vi a1.Time, vi a1.Int_, vu a1.Re, vu a1.Im, vi a1.Hist.Scale, vu a1.Hist.Zero, vi a1.Hist.Pos.Offset, (Value.slice bk bl bm), vi a1.Hist.Neg.Offset, (Value.slice bo bp bq), vi a1.Flags] z z z ?_
 intro i6 il iR C he
 refine WL.alloc (O := il) 13 [vB false, vi 0, vi 0, vi 0, vu 0, vu 0, vi 0, vu 0, vi 0, Value.slice none 0 0, vi 0, Value.slice none 0 0] ty32 z z ?_
 intro a6 im iS l ai
 refine wY (ya z) z (nl (th (sq (rg ?_))))
 have hf := g8.st C z
 have ar := hf.st l z
 refine wY (yL ty32 z z (ar.cells 0 [vB a0.Some, vi a0.Start, vi a0.Time, vi a0.Int_, vu a0.Re, vu a0.Im, vi a0.Hist.Scale, vu a0.Hist.Zero, vi a0.Hist.Pos.Offset, (Value.slice m n o), vi a0.Hist.Neg.Offset, (Value.slice p q r)] z) z) z (WL.alloc (O := im) 14 [vB false, vi 0, vi 0, vi 0, vu 0, vu 0, vi 0, vu 0, vi 0, Value.slice none 0 0, vi 0, Value.slice none 0 0] ty32 z z ?_)
 intro a7 aU iT c hg
 refine WL.store (v := ag [vB a0.Some, vi a0.Start, vi a0.Time, vi a0.Int_, vu a0.Re, vu a0.Im, vi a0.Hist.Scale, vu a0.Hist.Zero, vi a0.Hist.Pos.Offset, (Value.slice m n o), vi a0.Hist.Neg.Offset, (Value.slice p q r)]) (cells' := [vB a0.Some, vi a0.Start, vi a0.Time, vi a0.Int_, vu a0.Re, vu a0.Im, vi a0.Hist.Scale, vu a0.Hist.Zero, vi a0.Hist.Pos.Offset, (Value.slice m n o), vi a0.Hist.Neg.Offset, (Value.slice p q r)]) ty32 z z hg z (le_ z) z z ?_
 intro iU d hh
 refine nl (th (sq (rg (wY (yf fo37_6 z) z ?_))))
 have hj := he.st l z
 have hl := hj.st c z
 have br := hl.st d z
 refine wY (yl ty3 z z (br.cell 6 _ z)) z (wY (yf fo32_2 z) z (WL.store (v := vi a1.Time) (cells' := [vB a0.Some, vi a0.Start, vi a1.Time, vi a0.Int_, vu a0.Re, vu a0.Im, vi a0.Hist.Scale, vu a0.Hist.Zero, vi a0.Hist.Pos.Offset, (Value.slice m n o), vi a0.Hist.Neg.Offset, (Value.slice p q r)]) ty3 z z hh z (le_ z) z z ?_))
 intro iV e ao
 refine nl (th (sq (sq (rg (wY (yf fo37_2 z) z ?_)))))
 have aj := br.st e z
 refine wY (yl ty3 z z (aj.cell 2 _ z)) z (nl (th (WC.block (sq (rg (wY (Y.eql_i z z) z ?_))))))
 obtain ⟨i7, hm, h⟩ := lt1 h
 refine WL.yE (ya z) (congrArg vB hm.symm) z (nl (th ?_))
 rcases cnd h with ⟨aW, h⟩ | ⟨aW, h⟩
 ·refine WC.condT' z aW (sq (sq (rg (wY (yf fo32_3 z) z ?_))))
  have hn := ar.st c z
  have ho := hn.st d z
  have bs := ho.st e z
  refine wY (yl ty3 z z (bs.cell 3 _ z)) z (wY (yf fo37_7 z) z (wY (yl ty3 z z (aj.cell 7 _ z)) z ?_))
  obtain ⟨i8, hp, h⟩ := bnd h
  refine WL.call (vals := [vi a0.Int_, vi a1.Int_, vB false]) kok15 z z (c_ref15_Wide hp) ?_
  rintro iW iX ⟨rfl, hq⟩
  obtain ⟨g2, io, ip, U⟩ := adoptE aU (fun k => 1) hq
  refine nl (th ?_)
  rcases cnd h with ⟨aX, h⟩ | ⟨aX, h⟩
  ·refine WC.condT' z aX (sq (rg ?_))
   have hr := ao.st U z
   refine wY (yL ty32 z z (hr.cells 0 [vB a0.Some, vi a0.Start, vi a1.Time, vi a0.Int_, vu a0.Re, vu a0.Im, vi a0.Hist.Scale, vu a0.Hist.Zero, vi a0.Hist.Pos.Offset, (Value.slice m n o), vi a0.Hist.Neg.Offset, (Value.slice p q r)] z) z) z ?_
   have hs := ai.st c z
   have ht := hs.st d z
   have hu := ht.st e z
   have hv := hu.st U z
   refine WL.store (v := ag [vB a0.Some, vi a0.Start, vi a1.Time, vi a0.Int_, vu a0.Re, vu a0.Im, vi a0.Hist.Scale, vu a0.Hist.Zero, vi a0.Hist.Pos.Offset, (Value.slice m n o), vi a0.Hist.Neg.Offset, (Value.slice p q r)]) (cells' := [vB a0.Some, vi a0.Start, vi a1.Time, vi a0.Int_, vu a0.Re, vu a0.Im, vi a0.Hist.Scale, vu a0.Hist.Zero, vi a0.Hist.Pos.Offset, (Value.slice m n o), vi a0.Hist.Neg.Offset, (Value.slice p q r)]) ty32 z z hv z (le_ z) z z ?_
   intro hw aE hx
   refine wY (ya z) z (nl (th (rt (At.thenR (At.inBlockR (At.thenR ?_))))))
   obtain ⟨rfl, rfl⟩ := tup2 h
   have aY : Stp [13, 14] (Lg.O0 A) w g2 hw := (tr_ (su_ t z) (tr_ (su_ C z) (tr_ (su_ l z) (tr_ (su_ c z) (tr_ (su_ d z) (tr_ (su_ e z) (tr_ (su_ U z) (su_ aE z))))))))
   have hy := af.i t z z
   have hz := hy.i C z z
   have hA := hz.i l z z
   have hC := hA.i c z z
   have hD := hC.i d z z
   have bB := hD.i e z z
   have bC := bB.i U z z
   have bD := bC.i aE z z
   have bE := ah.i t z z
   have bF := bE.i C z z
   have bG := bF.i l z z
   have bH := bG.i c z z
   have bI := bH.i d z z
   have bJ := bI.i e z z
   have bK := bJ.i U z z
   have bL := bK.i aE z z
   exact At.res (.inl z) z (.cell z (hx.runAg 0 [vB a0.Some, vi a0.Start, vi a1.Time, vi a0.Int_, vu a0.Re, vu a0.Im, vi a0.Hist.Scale, vu a0.Hist.Zero, vi a0.Hist.Pos.Offset, (Value.slice m n o), vi a0.Hist.Neg.Offset, (Value.slice p q r)] ty32 z z z) (.tmp z .nil)) ⟨(Value.slice m n o), (Value.slice p q r), z, (se_ aY z z), (Sl.outI bD aY low0 O0_A), (Sl.outI bL aY low0 O0_A)⟩
  ·refine WC.condF' z aX (sk (th (rg (wY (yf fo32_3 z) z ?_))))
   have bM := bs.st U z
   refine wY (yl ty3 z z (bM.cell 3 _ z)) z (wY (yf fo37_7 z) z ?_)
   have bO := aj.st U z
   refine wY (yl ty3 z z (bO.cell 7 _ z)) z (wY (Y.add_i z z) z (wY (yf fo32_3 z) z ?_))
   obtain ⟨ap, bP, h⟩ := lt1 h
   refine WL.ren 29 z (congrArg vi bP.symm) ?_
   have bQ := ao.st U z
   refine WL.store (v := vi ap) (cells' := [vB a0.Some, vi a0.Start, vi a1.Time, vi ap, vu a0.Re, vu a0.Im, vi a0.Hist.Scale, vu a0.Hist.Zero, vi a0.Hist.Pos.Offset, (Value.slice m n o), vi a0.Hist.Neg.Offset, (Value.slice p q r)]) ty3 z z bQ z (le_ z) z z ?_
   intro iq am bR
   refine nl (At.inBlock (th (sq (rg (wY (yL ty32 z z (bR.cells 0 [vB a0.Some, vi a0.Start, vi a1.Time, vi ap, vu a0.Re, vu a0.Im, vi a0.Hist.Scale, vu a0.Hist.Zero, vi a0.Hist.Pos.Offset, (Value.slice m n o), vi a0.Hist.Neg.Offset, (Value.slice p q r)] z) z) z ?_)))))
   have bS := ai.st c z
   have bT := bS.st d z
   have bU := bT.st e z
   have bW := bU.st U z
   have bX := bW.st am z
   refine WL.store (v := ag [vB a0.Some, vi a0.Start, vi a1.Time, vi ap, vu a0.Re, vu a0.Im, vi a0.Hist.Scale, vu a0.Hist.Zero, vi a0.Hist.Pos.Offset, (Value.slice m n o), vi a0.Hist.Neg.Offset, (Value.slice p q r)]) (cells' := [vB a0.Some, vi a0.Start, vi a1.Time, vi ap, vu a0.Re, vu a0.Im, vi a0.Hist.Scale, vu a0.Hist.Zero, vi a0.Hist.Pos.Offset, (Value.slice m n o), vi a0.Hist.Neg.Offset, (Value.slice p q r)]) ty32 z z bX z (le_ z) z z ?_
   intro bY au bZ
   refine wY (ya z) z (nl (th (rt ?_)))
   obtain ⟨rfl, rfl⟩ := tup2 h
   have aF : Stp [13, 14] (Lg.O0 A) w g2 bY := (tr_ (su_ t z) (tr_ (su_ C z) (tr_ (su_ l z) (tr_ (su_ c z) (tr_ (su_ d z) (tr_ (su_ e z) (tr_ (su_ U z) (tr_ (su_ am z) (su_ au z)))))))))
   have b0 := af.i t z z
   have b1 := b0.i C z z
   have b2 := b1.i l z z
   have b3 := b2.i c z z
   have b4 := b3.i d z z
   have b5 := b4.i e z z
   have b6 := b5.i U z z
   have b7 := b6.i am z z
   have b8 := b7.i au z z
   have b9 := ah.i t z z
   have ca := b9.i C z z
   have cb := ca.i l z z
   have cc := cb.i c z z
   have cd := cc.i d z z
   have ce := cd.i e z z
   have cf := ce.i U z z
   have cg := cf.i am z z
   have ch := cg.i au z z
   exact At.res (.inl z) z (.cell z (bZ.runAg 0 [vB a0.Some, vi a0.Start, vi a1.Time, vi ap, vu a0.Re, vu a0.Im, vi a0.Hist.Scale, vu a0.Hist.Zero, vi a0.Hist.Pos.Offset, (Value.slice m n o), vi a0.Hist.Neg.Offset, (Value.slice p q r)] ty32 z z z) (.tmp z .nil)) ⟨(Value.slice m n o), (Value.slice p q r), z, (se_ aF z z), (Sl.outI b8 aF low0 O0_A), (Sl.outI ch aF low0 O0_A)⟩
 ·refine WC.condF' z aW (sq (rg (wY (Y.eql_i z z) z ?_)))
  obtain ⟨iY, ci, h⟩ := lt1 h
  refine WL.yE (ya z) (congrArg vB ci.symm) z (nl (th ?_))
  rcases cnd h with ⟨aG, h⟩ | ⟨aG, h⟩
  ·refine WC.condT' z aG (sq (rg (wY (yf fo32_4 z) z ?_)))
   have cj := ar.st c z
   have ck := cj.st d z
   have a8 := ck.st e z
   refine wY (yl ty25 z z (a8.cell 4 _ z)) z (wY (yf fo37_8 z) z (wY (yl ty25 z z (aj.cell 8 _ z)) z ?_))
   obtain ⟨X, cl, h⟩ := bnd h
   refine WL.call (vals := [vu a0.Re, vu a1.Re]) kok79 z z (c_ref05_Add cl) ?_
   rintro ir it ⟨rfl, cm⟩
   obtain ⟨hE, h0, h1, H⟩ := adoptE aU (fun k => 1) cm
   refine wY (yf fo32_4 z) z ?_
   have cn := ao.st H z
   refine WL.store (v := vu X) (cells' := [vB a0.Some, vi a0.Start, vi a1.Time, vi a0.Int_, vu X, vu a0.Im, vi a0.Hist.Scale, vu a0.Hist.Zero, vi a0.Hist.Pos.Offset, (Value.slice m n o), vi a0.Hist.Neg.Offset, (Value.slice p q r)]) ty25 z z cn z (le_ z) z z ?_
   intro iu M aH
   refine nl (th (sq (rg (wY (yf fo32_4 z) z (wY (yl ty25 z z (aH.cell 4 _ z)) z ?_)))))
   obtain ⟨iZ, co, h⟩ := bnd h
   refine WL.call (vals := [vu X]) kok80 z z (c_ref05_Finite co) ?_
   rintro iv cp ⟨rfl, cq⟩
   obtain ⟨aZ, h2, h3, D⟩ := adoptE hE (fun k => 1) cq
   refine wY (Y.not z) z (wY (ym z) z ?_)
   obtain ⟨hF, h, cr⟩ := bnd h
   refine WL.cut 7 (σ := (Bool × Own)) (fun x w' => x.1 = hF ∧ Stp [] aZ cp x.2 w') (fun x => [(6, pt a6 0), (8, pt a7 0), (50, vB x.1)]) ?_ ?_
   ·rcases cnd h with ⟨aI, h⟩ | ⟨aI, h⟩
    ·refine WL.ren 43 z (congrArg vB aI) (ug z z (wY (yf fo32_4 z) z (ug z z ?_)))
     have cs := a8.st H z
     have ct := cs.st M z
     have cu := ct.st D z
     refine wY (yl ty25 z z (cu.cell 4 _ z)) z (ug z z (wY (yf fo37_8 z) z (ug z z ?_)))
     have cv := aj.st H z
     have cw := cv.st M z
     have cx := cw.st D z
     refine wY (yl ty25 z z (cx.cell 8 _ z)) z (ug z z (WL.buildSlice (O := aZ) (R := Rep.u) (vals := [(0, vu a0.Re), (1, vu a1.Re)]) 15 [vu a0.Re, vu a1.Re] (xs := [a0.Re, a1.Re]) (by decide) ty26 ty25 (by decide) (by decide) (fe_ z) (by kernel_rfl) z ⟨[vu a0.Re], [vu a1.Re], z, z, ⟨[vu a1.Re], [], z, z, z⟩⟩ z ?_))
     intro hG hH iw bt cy
     refine ug z z ?_
     obtain ⟨hI, cz, h⟩ := bnd h
     refine WL.call (vals := [hG]) kok81 z z (c_ref15_Finite (A := fun _ => True) (cy.src.sl) cz) ?_
     rintro ix iy ⟨rfl, cA⟩
     obtain ⟨hJ, h4, h5, bu⟩ := adoptE hH (fun k => 1) cA
     refine wY (Y.pick (b := true) z z) z ?_
     exact nl (At.join (σ := (Bool × Own)) (hI, hJ) ⟨some1 h, (tr_ (su_ bt z) (su_ bu z))⟩ (.cons z (.cons z (.cons z .nil))))
    ·refine WL.ren 43 z (congrArg vB aI) (WL.gS z z z z (WL.gS z z z z (WL.gS z z z z (WL.gS z z z z (WL.gS z z z z (WL.gS z z z z (wY (Y.pick (b := false) z z) z ?_)))))))
     exact nl (At.join (σ := (Bool × Own)) (false, aZ) ⟨some1 h, (sr_ _ _ _)⟩ (.cons z (.cons z (.cons z .nil))))
   ·rintro ⟨hK, bw⟩ iz ⟨rfl, I⟩
    replace h := cr
    try dsimp only at h I
    refine (show WL _ _ _ _ _ [(6, pt a6 0), (8, pt a7 0), (50, vB hK)] _ from ?_)
    refine nl (th ?_)
    rcases cnd h with ⟨aJ, h⟩ | ⟨aJ, h⟩
    ·refine WC.condT' z aJ (sq (rg ?_))
     have cC := aH.st D z
     have cD := cC.st I z
     refine wY (yL ty32 z z (cD.cells 0 [vB a0.Some, vi a0.Start, vi a1.Time, vi a0.Int_, vu X, vu a0.Im, vi a0.Hist.Scale, vu a0.Hist.Zero, vi a0.Hist.Pos.Offset, (Value.slice m n o), vi a0.Hist.Neg.Offset, (Value.slice p q r)] z) z) z ?_
     have cE := ai.st c z
     have cF := cE.st d z
     have cG := cF.st e z
     have cH := cG.st H z
     have cI := cH.st M z
     have cJ := cI.st D z
     have cK := cJ.st I z
     refine WL.store (v := ag [vB a0.Some, vi a0.Start, vi a1.Time, vi a0.Int_, vu X, vu a0.Im, vi a0.Hist.Scale, vu a0.Hist.Zero, vi a0.Hist.Pos.Offset, (Value.slice m n o), vi a0.Hist.Neg.Offset, (Value.slice p q r)]) (cells' := [vB a0.Some, vi a0.Start, vi a1.Time, vi a0.Int_, vu X, vu a0.Im, vi a0.Hist.Scale, vu a0.Hist.Zero, vi a0.Hist.Pos.Offset, (Value.slice m n o), vi a0.Hist.Neg.Offset, (Value.slice p q r)]) ty32 z z cK z (le_ z) z z ?_
     intro cL av cM
     refine wY (ya z) z (nl (th (rt (At.inBlockR (At.thenR ?_)))))
     obtain ⟨rfl, rfl⟩ := tup2 h
     have aK : Stp [13, 14] (Lg.O0 A) w bw cL := (tr_ (su_ t z) (tr_ (su_ C z) (tr_ (su_ l z) (tr_ (su_ c z) (tr_ (su_ d z) (tr_ (su_ e z) (tr_ (su_ H z) (tr_ (su_ M z) (tr_ (su_ D z) (tr_ (su_ I z) (su_ av z)))))))))))
     have cN := af.i t z z
     have cO := cN.i C z z
     have cP := cO.i l z z
     have cQ := cP.i c z z
     have cR := cQ.i d z z
     have cS := cR.i e z z
     have cT := cS.i H z z
     have cU := cT.i M z z
     have cV := cU.i D z z
     have cW := cV.i I z z
     have cX := cW.i av z z
     have cY := ah.i t z z
     have cZ := cY.i C z z
     have c0 := cZ.i l z z
     have c1 := c0.i c z z
     have c2 := c1.i d z z
     have c3 := c2.i e z z
     have c4 := c3.i H z z
     have c5 := c4.i M z z
     have c6 := c5.i D z z
     have c7 := c6.i I z z
     have c8 := c7.i av z z
     exact At.res (.inl z) z (.cell z (cM.runAg 0 [vB a0.Some, vi a0.Start, vi a1.Time, vi a0.Int_, vu X, vu a0.Im, vi a0.Hist.Scale, vu a0.Hist.Zero, vi a0.Hist.Pos.Offset, (Value.slice m n o), vi a0.Hist.Neg.Offset, (Value.slice p q r)] ty32 z z z) (.tmp z .nil)) ⟨(Value.slice m n o), (Value.slice p q r), z, (se_ aK z z), (Sl.outI cX aK low0 O0_A), (Sl.outI c8 aK low0 O0_A)⟩
    ·refine WC.condF' z aJ (sk (At.inBlock (th (sq (rg ?_)))))
     have c9 := aH.st D z
     have da := c9.st I z
     refine wY (yL ty32 z z (da.cells 0 [vB a0.Some, vi a0.Start, vi a1.Time, vi a0.Int_, vu X, vu a0.Im, vi a0.Hist.Scale, vu a0.Hist.Zero, vi a0.Hist.Pos.Offset, (Value.slice m n o), vi a0.Hist.Neg.Offset, (Value.slice p q r)] z) z) z ?_
     have db := ai.st c z
     have dc := db.st d z
     have dd := dc.st e z
     have de := dd.st H z
     have df := de.st M z
     have dg := df.st D z
     have dh := dg.st I z
     refine WL.store (v := ag [vB a0.Some, vi a0.Start, vi a1.Time, vi a0.Int_, vu X, vu a0.Im, vi a0.Hist.Scale, vu a0.Hist.Zero, vi a0.Hist.Pos.Offset, (Value.slice m n o), vi a0.Hist.Neg.Offset, (Value.slice p q r)]) (cells' := [vB a0.Some, vi a0.Start, vi a1.Time, vi a0.Int_, vu X, vu a0.Im, vi a0.Hist.Scale, vu a0.Hist.Zero, vi a0.Hist.Pos.Offset, (Value.slice m n o), vi a0.Hist.Neg.Offset, (Value.slice p q r)]) ty32 z z dh z (le_ z) z z ?_
     intro di aw dj
     refine wY (ya z) z (nl (th (rt ?_)))
     obtain ⟨rfl, rfl⟩ := tup2 h
     have aL : Stp [13, 14] (Lg.O0 A) w bw di := (tr_ (su_ t z) (tr_ (su_ C z) (tr_ (su_ l z) (tr_ (su_ c z) (tr_ (su_ d z) (tr_ (su_ e z) (tr_ (su_ H z) (tr_ (su_ M z) (tr_ (su_ D z) (tr_ (su_ I z) (su_ aw z)))))))))))
     have dk := af.i t z z
     have dl := dk.i C z z
     have dm := dl.i l z z
     have dn := dm.i c z z
     have dp := dn.i d z z
     have dr := dp.i e z z
     have ds := dr.i H z z
     have dt := ds.i M z z
     have du := dt.i D z z
     have dw := du.i I z z
     have dx := dw.i aw z z
     have dy := ah.i t z z
     have dz := dy.i C z z
     have dA := dz.i l z z
     have dB := dA.i c z z
     have dC := dB.i d z z
     have dD := dC.i e z z
     have dE := dD.i H z z
     have dF := dE.i M z z
     have dG := dF.i D z z
     have dH := dG.i I z z
     have dI := dH.i aw z z
     exact At.res (.inl z) z (.cell z (dj.runAg 0 [vB a0.Some, vi a0.Start, vi a1.Time, vi a0.Int_, vu X, vu a0.Im, vi a0.Hist.Scale, vu a0.Hist.Zero, vi a0.Hist.Pos.Offset, (Value.slice m n o), vi a0.Hist.Neg.Offset, (Value.slice p q r)] ty32 z z z) (.tmp z .nil)) ⟨(Value.slice m n o), (Value.slice p q r), z, (se_ aL z z), (Sl.outI dx aL low0 O0_A), (Sl.outI dI aL low0 O0_A)⟩
  ·refine WC.condF' z aG (sq (rg (wY (Y.eql_i z z) z ?_)))
   obtain ⟨i0, dJ, h⟩ := lt1 h
   refine WL.yE (ya z) (congrArg vB dJ.symm) z (nl (th ?_))
   rcases cnd h with ⟨aM, h⟩ | ⟨aM, h⟩
   ·refine WC.condT' z aM (sq (rg (wY (yf fo32_6 z) z ?_)))
    have dK := ar.st c z
    have dL := dK.st d z
    have dM := dL.st e z
    refine wY (yL ty30 z z (dM.cells 6 [vi a0.Hist.Scale, vu a0.Hist.Zero, vi a0.Hist.Pos.Offset, (Value.slice m n o), vi a0.Hist.Neg.Offset, (Value.slice p q r)] z) z) z (wY (yf fo37_10 z) z (wY (yL ty30 z z (aj.cells 10 [vi a1.Hist.Scale, vu a1.Hist.Zero, vi a1.Hist.Pos.Offset, (Value.slice bk bl bm), vi a1.Hist.Neg.Offset, (Value.slice bo bp bq)] z) z) z (wY (ym z) z ?_)))
    have dN := af.i t z z
    have dO := dN.i C z z
    have dP := dO.i l z z
    have dQ := dP.i c z z
    have dR := dQ.i d z z
    have dS := dR.i e z z
    have dT := ah.i t z z
    have dU := dT.i C z z
    have dV := dU.i l z z
    have dW := dV.i c z z
    have dX := dW.i d z z
    have dY := dX.i e z z
    have dZ := bj.i C z z
    have d0 := dZ.i l z z
    have d1 := d0.i c z z
    have d2 := d1.i d z z
    have d3 := d2.i e z z
    have d4 := bn.i C z z
    have d5 := d4.i l z z
    have d6 := d5.i c z z
    have d7 := d6.i d z z
    have d8 := d7.i e z z
    obtain ⟨⟨j, i1⟩, d9, h⟩ := bnd h
    refine WL.call (vals := [ag [vi a0.Hist.Scale, vu a0.Hist.Zero, vi a0.Hist.Pos.Offset, (Value.slice m n o), vi a0.Hist.Neg.Offset, (Value.slice p q r)], ag [vi a1.Hist.Scale, vu a1.Hist.Zero, vi a1.Hist.Pos.Offset, (Value.slice bk bl bm), vi a1.Hist.Neg.Offset, (Value.slice bo bp bq)], vi a2]) kok25 z z (c_ref16_Together (A := fun _ => True) (a0 := a0.Hist) (a1 := a1.Hist) (Sl.all dS) (Sl.all dY) (Sl.all d3) (Sl.all d8) d9) ?_
    rintro iA a9 ⟨hL, hM, rfl, ea, hN, hO⟩
    obtain ⟨a3, h6, aD, ax⟩ := adoptE aU (fun k => 1) ea
    have eb : Sl Rep.u a9 (frs a3) hL j.Pos.Counts := Sl.adoptF hN (fun k hk => ⟨hk, z⟩) aD
    have ec : Sl Rep.u a9 (frs a3) hM j.Neg.Counts := Sl.adoptF hO (fun k hk => ⟨hk, z⟩) aD
    refine wY (ym z) z (wY (yx z z) z (wY (yx z z) z (WL.alloc (O := a3) 16 [vi 0, vu 0, vi 0, Value.slice none 0 0, vi 0, Value.slice none 0 0] ty30 z z ?_)))
    intro i2 hP iB ak ed
    have ba := eb.f ak z
    have ee := h
    obtain ⟨Z, aa, ab, rfl⟩ := ba.shape
    have h := ee
    have bb := ec.f ak z
    have ef := h
    obtain ⟨ac, ad, ae, rfl⟩ := bb.shape
    have h := ef
    refine WL.store (v := ag [vi j.Scale, vu j.Zero, vi j.Pos.Offset, (Value.slice Z aa ab), vi j.Neg.Offset, (Value.slice ac ad ae)]) (cells' := [vi j.Scale, vu j.Zero, vi j.Pos.Offset, (Value.slice Z aa ab), vi j.Neg.Offset, (Value.slice ac ad ae)]) ty30 z z ed z (le_ z) z z ?_
    intro iC al eg
    refine wY (ya z) z (nl (th (sq (rg (wY (yL ty30 z z (eg.cells 0 [vi j.Scale, vu j.Zero, vi j.Pos.Offset, (Value.slice Z aa ab), vi j.Neg.Offset, (Value.slice ac ad ae)] z) z) z (wY (yf fo32_6 z) z ?_))))))
    have eh := ao.st ax z
    have ei := eh.st ak z
    have ej := ei.st al z
    refine WL.store (v := ag [vi j.Scale, vu j.Zero, vi j.Pos.Offset, (Value.slice Z aa ab), vi j.Neg.Offset, (Value.slice ac ad ae)]) (cells' := [vB a0.Some, vi a0.Start, vi a1.Time, vi a0.Int_, vu a0.Re, vu a0.Im, vi j.Scale, vu j.Zero, vi j.Pos.Offset, (Value.slice Z aa ab), vi j.Neg.Offset, (Value.slice ac ad ae)]) ty30 z z ej z (le_ z) z z ?_
    intro iD an ek
    refine nl (th (sq (rg (wY (yL ty32 z z (ek.cells 0 [vB a0.Some, vi a0.Start, vi a1.Time, vi a0.Int_, vu a0.Re, vu a0.Im, vi j.Scale, vu j.Zero, vi j.Pos.Offset, (Value.slice Z aa ab), vi j.Neg.Offset, (Value.slice ac ad ae)] z) z) z (wY (ym z) z ?_)))))
    have em := ai.st c z
    have en := em.st d z
    have eo := en.st e z
    have ep := eo.st ax z
    have er := ep.st ak z
    have es := er.st al z
    have et := es.st an z
    refine WL.store (v := ag [vB a0.Some, vi a0.Start, vi a1.Time, vi a0.Int_, vu a0.Re, vu a0.Im, vi j.Scale, vu j.Zero, vi j.Pos.Offset, (Value.slice Z aa ab), vi j.Neg.Offset, (Value.slice ac ad ae)]) (cells' := [vB a0.Some, vi a0.Start, vi a1.Time, vi a0.Int_, vu a0.Re, vu a0.Im, vi j.Scale, vu j.Zero, vi j.Pos.Offset, (Value.slice Z aa ab), vi j.Neg.Offset, (Value.slice ac ad ae)]) ty32 z z et z (le_ z) z z ?_
    intro eu ay ew
    refine wY (ya z) z (nl (th (rt (At.inBlockR (At.thenR ?_)))))
    obtain ⟨rfl, rfl⟩ := tup2 h
    have aN : Stp [13, 14, 16] (Lg.O0 A) w hP eu := (tr_ (su_ t z) (tr_ (su_ C z) (tr_ (su_ l z) (tr_ (su_ c z) (tr_ (su_ d z) (tr_ (su_ e z) (tr_ (su_ ax z) (tr_ (su_ ak z) (tr_ (su_ al z) (tr_ (su_ an z) (su_ ay z)))))))))))
    have ex := ba.f al z
    have ey := ex.f an z
    have ez := ey.f ay z
    have eA := bb.f al z
    have eB := eA.f an z
    have eC := eB.f ay z
    exact At.res (.inl z) z (.cell z (ew.runAg 0 [vB a0.Some, vi a0.Start, vi a1.Time, vi a0.Int_, vu a0.Re, vu a0.Im, vi j.Scale, vu j.Zero, vi j.Pos.Offset, (Value.slice Z aa ab), vi j.Neg.Offset, (Value.slice ac ad ae)] ty32 z z z) (.tmp z .nil)) ⟨(Value.slice Z aa ab), (Value.slice ac ad ae), z, (se_ aN z z), (Sl.outI (Sl.mono ez frs_imm) aN low0 O0_A), (Sl.outI (Sl.mono eC frs_imm) aN low0 O0_A)⟩
   ·refine WC.condF' z aM (sq (rg (wY (Y.eql_i z z) z ?_)))
    obtain ⟨i3, eD, h⟩ := lt1 h
    refine WL.yE (ya z) (congrArg vB eD.symm) z (nl (th ?_))
    rcases cnd h with ⟨aO, h⟩ | ⟨aO, h⟩
    ·refine WC.condT' z aO (sq (rg (wY (yf fo32_4 z) z ?_)))
     have eE := ar.st c z
     have eF := eE.st d z
     have bc := eF.st e z
     refine wY (yl ty25 z z (bc.cell 4 _ z)) z (wY (yf fo37_8 z) z (wY (yl ty25 z z (aj.cell 8 _ z)) z ?_))
     obtain ⟨V, eG, h⟩ := bnd h
     refine WL.call (vals := [vu a0.Re, vu a1.Re]) kok79 z z (c_ref05_Add eG) ?_
     rintro iE iF ⟨rfl, eH⟩
     obtain ⟨hQ, h7, h8, J⟩ := adoptE aU (fun k => 1) eH
     refine wY (yf fo32_4 z) z ?_
     have eI := ao.st J z
     refine WL.store (v := vu V) (cells' := [vB a0.Some, vi a0.Start, vi a1.Time, vi a0.Int_, vu V, vu a0.Im, vi a0.Hist.Scale, vu a0.Hist.Zero, vi a0.Hist.Pos.Offset, (Value.slice m n o), vi a0.Hist.Neg.Offset, (Value.slice p q r)]) ty25 z z eI z (le_ z) z z ?_
     intro iG Q eJ
     refine nl (th (sq (rg (wY (yf fo32_5 z) z ?_))))
     have eK := bc.st J z
     have bd := eK.st Q z
     refine wY (yl ty25 z z (bd.cell 5 _ z)) z (wY (yf fo37_9 z) z ?_)
     have eL := aj.st J z
     have bf := eL.st Q z
     refine wY (yl ty25 z z (bf.cell 9 _ z)) z ?_
     obtain ⟨W, eM, h⟩ := bnd h
     refine WL.call (vals := [vu a0.Im, vu a1.Im]) kok79 z z (c_ref05_Add eM) ?_
     rintro iH iI ⟨rfl, eN⟩
     obtain ⟨hR, h9, ia, K⟩ := adoptE hQ (fun k => 1) eN
     refine wY (yf fo32_5 z) z ?_
     have eO := eJ.st K z
     refine WL.store (v := vu W) (cells' := [vB a0.Some, vi a0.Start, vi a1.Time, vi a0.Int_, vu V, vu W, vi a0.Hist.Scale, vu a0.Hist.Zero, vi a0.Hist.Pos.Offset, (Value.slice m n o), vi a0.Hist.Neg.Offset, (Value.slice p q r)]) ty25 z z eO z (le_ z) z z ?_
     intro iJ T aq
     refine nl (th (sq (rg (wY (yf fo32_4 z) z (wY (yl ty25 z z (aq.cell 4 _ z)) z (wY (yf fo32_5 z) z (wY (yl ty25 z z (aq.cell 5 _ z)) z (WL.buildSlice (O := hR) (R := Rep.u) (vals := [(0, vu V), (1, vu W)]) 17 [vu V, vu W] (xs := [V, W]) (by decide) ty26 ty25 (by decide) (by decide) (fe_ z) (by kernel_rfl) z ⟨[vu V], [vu W], z, z, ⟨[vu W], [], z, z, z⟩⟩ z ?_))))))))
     intro hS hT iK F eP
     obtain ⟨i4, eQ, h⟩ := bnd h
     refine WL.call (vals := [hS]) kok81 z z (c_ref15_Finite (A := fun _ => True) (eP.src.sl) eQ) ?_
     rintro iL eR ⟨rfl, eS⟩
     obtain ⟨a4, ib, ic, G⟩ := adoptE hT (fun k => 1) eS
     refine wY (Y.not z) z (wY (ym z) z ?_)
     obtain ⟨hU, h, eT⟩ := bnd h
     refine WL.cut 11 (σ := (Bool × Own)) (fun x w' => x.1 = hU ∧ Stp [] a4 eR x.2 w') (fun x => [(6, pt a6 0), (8, pt a7 0), (99, vB x.1)]) ?_ ?_
     ·rcases cnd h with ⟨aP, h⟩ | ⟨aP, h⟩
      ·refine WL.ren 88 z (congrArg vB aP) (ug z z (wY (yf fo32_4 z) z (ug z z ?_)))
       have eU := bd.st K z
       have eV := eU.st T z
       have eW := eV.st F z
       have bg := eW.st G z
       refine wY (yl ty25 z z (bg.cell 4 _ z)) z (ug z z (wY (yf fo32_5 z) z (ug z z (wY (yl ty25 z z (bg.cell 5 _ z)) z (ug z z (wY (yf fo37_8 z) z (ug z z ?_)))))))
       have eX := bf.st K z
       have eY := eX.st T z
       have eZ := eY.st F z
       have bh := eZ.st G z
       refine wY (yl ty25 z z (bh.cell 8 _ z)) z (ug z z (wY (yf fo37_9 z) z (ug z z (wY (yl ty25 z z (bh.cell 9 _ z)) z (ug z z (WL.buildSlice (O := a4) (R := Rep.u) (vals := [(0, vu a0.Re), (1, vu a0.Im), (2, vu a1.Re), (3, vu a1.Im)]) 18 [vu a0.Re, vu a0.Im, vu a1.Re, vu a1.Im] (xs := [a0.Re, a0.Im, a1.Re, a1.Im]) (by decide) ty26 ty25 (by decide) (by decide) (fe_ z) (by kernel_rfl) z ⟨[vu a0.Re], [vu a0.Im, vu a1.Re, vu a1.Im], z, z, ⟨[vu a0.Im], [vu a1.Re, vu a1.Im], z, z, ⟨[vu a1.Re], [vu a1.Im], z, z, ⟨[vu a1.Im], [], z, z, z⟩⟩⟩⟩ z ?_))))))
       intro hV hW iM bx e0
       refine ug z z ?_
       obtain ⟨hX, e1, h⟩ := bnd h
       refine WL.call (vals := [hV]) kok81 z z (c_ref15_Finite (A := fun _ => True) (e0.src.sl) e1) ?_
       rintro iN iO ⟨rfl, e2⟩
       obtain ⟨hY, ie, ig, bz⟩ := adoptE hW (fun k => 1) e2
       refine wY (Y.pick (b := true) z z) z ?_
       exact nl (At.join (σ := (Bool × Own)) (hX, hY) ⟨some1 h, (tr_ (su_ bx z) (su_ bz z))⟩ (.cons z (.cons z (.cons z .nil))))
      ·refine WL.ren 88 z (congrArg vB aP) (WL.gS z z z z (WL.gS z z z z (WL.gS z z z z (WL.gS z z z z (WL.gS z z z z (WL.gS z z z z (WL.gS z z z z (WL.gS z z z z (WL.gS z z z z ?_)))))))))
       refine WL.gS z z z z (wY (Y.pick (b := false) z z) z ?_)
       exact nl (At.join (σ := (Bool × Own)) (false, a4) ⟨some1 h, (sr_ _ _ _)⟩ (.cons z (.cons z (.cons z .nil))))
     ·rintro ⟨hZ, bA⟩ iP ⟨rfl, L⟩
      replace h := eT
      try dsimp only at h L
      refine (show WL _ _ _ _ _ [(6, pt a6 0), (8, pt a7 0), (99, vB hZ)] _ from ?_)
      refine nl (th ?_)
      rcases cnd h with ⟨aQ, h⟩ | ⟨aQ, h⟩
      ·refine WC.condT' z aQ (sq (rg ?_))
       have e5 := aq.st F z
       have e6 := e5.st G z
       have e7 := e6.st L z
       refine wY (yL ty32 z z (e7.cells 0 [vB a0.Some, vi a0.Start, vi a1.Time, vi a0.Int_, vu V, vu W, vi a0.Hist.Scale, vu a0.Hist.Zero, vi a0.Hist.Pos.Offset, (Value.slice m n o), vi a0.Hist.Neg.Offset, (Value.slice p q r)] z) z) z ?_
       have e8 := ai.st c z
       have e9 := e8.st d z
       have fa := e9.st e z
       have fb := fa.st J z
       have fc := fb.st Q z
       have fd := fc.st K z
       have fe := fd.st T z
       have ff := fe.st F z
       have fg := ff.st G z
       have fh := fg.st L z
       refine WL.store (v := ag [vB a0.Some, vi a0.Start, vi a1.Time, vi a0.Int_, vu V, vu W, vi a0.Hist.Scale, vu a0.Hist.Zero, vi a0.Hist.Pos.Offset, (Value.slice m n o), vi a0.Hist.Neg.Offset, (Value.slice p q r)]) (cells' := [vB a0.Some, vi a0.Start, vi a1.Time, vi a0.Int_, vu V, vu W, vi a0.Hist.Scale, vu a0.Hist.Zero, vi a0.Hist.Pos.Offset, (Value.slice m n o), vi a0.Hist.Neg.Offset, (Value.slice p q r)]) ty32 z z fh z (le_ z) z z ?_
       intro fi az fj
       refine wY (ya z) z (nl (th (rt (At.inBlockR (At.thenR ?_)))))
       obtain ⟨rfl, rfl⟩ := tup2 h
       have aR : Stp [13, 14] (Lg.O0 A) w bA fi := (tr_ (su_ t z) (tr_ (su_ C z) (tr_ (su_ l z) (tr_ (su_ c z) (tr_ (su_ d z) (tr_ (su_ e z) (tr_ (su_ J z) (tr_ (su_ Q z) (tr_ (su_ K z) (tr_ (su_ T z) (tr_ (su_ F z) (tr_ (su_ G z) (tr_ (su_ L z) (su_ az z))))))))))))))
       have fk := af.i t z z
       have fl := fk.i C z z
       have fm := fl.i l z z
       have fn := fm.i c z z
       have fo := fn.i d z z
       have fp := fo.i e z z
       have fq := fp.i J z z
       have fr := fq.i Q z z
       have fs := fr.i K z z
       have ft := fs.i T z z
       have fu := ft.i F z z
       have fv := fu.i G z z
       have fw := fv.i L z z
       have fx := fw.i az z z
       have fy := ah.i t z z
       have fz := fy.i C z z
       have fA := fz.i l z z
       have fB := fA.i c z z
       have fC := fB.i d z z
       have fD := fC.i e z z
       have fF := fD.i J z z
       have fG := fF.i Q z z
       have fH := fG.i K z z
       have fI := fH.i T z z
       have fJ := fI.i F z z
       have fK := fJ.i G z z
       have fL := fK.i L z z
       have fN := fL.i az z z
       exact At.res (.inl z) z (.cell z (fj.runAg 0 [vB a0.Some, vi a0.Start, vi a1.Time, vi a0.Int_, vu V, vu W, vi a0.Hist.Scale, vu a0.Hist.Zero, vi a0.Hist.Pos.Offset, (Value.slice m n o), vi a0.Hist.Neg.Offset, (Value.slice p q r)] ty32 z z z) (.tmp z .nil)) ⟨(Value.slice m n o), (Value.slice p q r), z, (se_ aR z z), (Sl.outI fx aR low0 O0_A), (Sl.outI fN aR low0 O0_A)⟩
      ·refine WC.condF' z aQ (sk (At.inBlock (th (sq (rg ?_)))))
       have fO := aq.st F z
       have fP := fO.st G z
       have fQ := fP.st L z
       refine wY (yL ty32 z z (fQ.cells 0 [vB a0.Some, vi a0.Start, vi a1.Time, vi a0.Int_, vu V, vu W, vi a0.Hist.Scale, vu a0.Hist.Zero, vi a0.Hist.Pos.Offset, (Value.slice m n o), vi a0.Hist.Neg.Offset, (Value.slice p q r)] z) z) z ?_
       have fR := ai.st c z
       have fT := fR.st d z
       have fU := fT.st e z
       have fV := fU.st J z
       have fY := fV.st Q z
       have f0 := fY.st K z
       have f1 := f0.st T z
       have f2 := f1.st F z
       have f3 := f2.st G z
       have f4 := f3.st L z
       refine WL.store (v := ag [vB a0.Some, vi a0.Start, vi a1.Time, vi a0.Int_, vu V, vu W, vi a0.Hist.Scale, vu a0.Hist.Zero, vi a0.Hist.Pos.Offset, (Value.slice m n o), vi a0.Hist.Neg.Offset, (Value.slice p q r)]) (cells' := [vB a0.Some, vi a0.Start, vi a1.Time, vi a0.Int_, vu V, vu W, vi a0.Hist.Scale, vu a0.Hist.Zero, vi a0.Hist.Pos.Offset, (Value.slice m n o), vi a0.Hist.Neg.Offset, (Value.slice p q r)]) ty32 z z f4 z (le_ z) z z ?_
       intro f5 aA f6
       refine wY (ya z) z (nl (th (rt ?_)))
       obtain ⟨rfl, rfl⟩ := tup2 h
       have aS : Stp [13, 14] (Lg.O0 A) w bA f5 := (tr_ (su_ t z) (tr_ (su_ C z) (tr_ (su_ l z) (tr_ (su_ c z) (tr_ (su_ d z) (tr_ (su_ e z) (tr_ (su_ J z) (tr_ (su_ Q z) (tr_ (su_ K z) (tr_ (su_ T z) (tr_ (su_ F z) (tr_ (su_ G z) (tr_ (su_ L z) (su_ aA z))))))))))))))
       have f7 := af.i t z z
       have f8 := f7.i C z z
       have f9 := f8.i l z z
       have ga := f9.i c z z
       have gb := ga.i d z z
       have gc := gb.i e z z
       have gd := gc.i J z z
       have ge := gd.i Q z z
       have gf := ge.i K z z
       have gg := gf.i T z z
       have gh := gg.i F z z
       have gi := gh.i G z z
       have gj := gi.i L z z
       have gk := gj.i aA z z
       have gl := ah.i t z z
       have gm := gl.i C z z
       have gn := gm.i l z z
       have gp := gn.i c z z
       have gq := gp.i d z z
       have gr := gq.i e z z
       have gs := gr.i J z z
       have gt := gs.i Q z z
       have gu := gt.i K z z
       have gw := gu.i T z z
       have gz := gw.i F z z
       have gB := gz.i G z z
       have gC := gB.i L z z
       have gE := gC.i aA z z
       exact At.res (.inl z) z (.cell z (f6.runAg 0 [vB a0.Some, vi a0.Start, vi a1.Time, vi a0.Int_, vu V, vu W, vi a0.Hist.Scale, vu a0.Hist.Zero, vi a0.Hist.Pos.Offset, (Value.slice m n o), vi a0.Hist.Neg.Offset, (Value.slice p q r)] ty32 z z z) (.tmp z .nil)) ⟨(Value.slice m n o), (Value.slice p q r), z, (se_ aS z z), (Sl.outI gk aS low0 O0_A), (Sl.outI gE aS low0 O0_A)⟩
    ·refine WC.condF' z aO (sk (At.inBlock (th (sq (rg (wY (yL ty32 z z (ao.cells 0 [vB a0.Some, vi a0.Start, vi a1.Time, vi a0.Int_, vu a0.Re, vu a0.Im, vi a0.Hist.Scale, vu a0.Hist.Zero, vi a0.Hist.Pos.Offset, (Value.slice m n o), vi a0.Hist.Neg.Offset, (Value.slice p q r)] z) z) z ?_))))))
     have gG := ai.st c z
     have gH := gG.st d z
     have gI := gH.st e z
     refine WL.store (v := ag [vB a0.Some, vi a0.Start, vi a1.Time, vi a0.Int_, vu a0.Re, vu a0.Im, vi a0.Hist.Scale, vu a0.Hist.Zero, vi a0.Hist.Pos.Offset, (Value.slice m n o), vi a0.Hist.Neg.Offset, (Value.slice p q r)]) (cells' := [vB a0.Some, vi a0.Start, vi a1.Time, vi a0.Int_, vu a0.Re, vu a0.Im, vi a0.Hist.Scale, vu a0.Hist.Zero, vi a0.Hist.Pos.Offset, (Value.slice m n o), vi a0.Hist.Neg.Offset, (Value.slice p q r)]) ty32 z z gI z (le_ z) z z ?_
     intro gJ aC gK
     refine wY (ya z) z (nl (th (rt ?_)))
     obtain ⟨rfl, rfl⟩ := tup2 h
     have aT : Stp [13, 14] (Lg.O0 A) w aU gJ := (tr_ (su_ t z) (tr_ (su_ C z) (tr_ (su_ l z) (tr_ (su_ c z) (tr_ (su_ d z) (tr_ (su_ e z) (su_ aC z)))))))
     have gL := af.i t z z
     have gM := gL.i C z z
     have gO := gM.i l z z
     have gP := gO.i c z z
     have gQ := gP.i d z z
     have gR := gQ.i e z z
     have gU := gR.i aC z z
     have gV := ah.i t z z
     have gW := gV.i C z z
     have gX := gW.i l z z
     have gY := gX.i c z z
     have gZ := gY.i d z z
     have g0 := gZ.i e z z
     have g1 := g0.i aC z z
     exact At.res (.inl z) z (.cell z (gK.runAg 0 [vB a0.Some, vi a0.Start, vi a1.Time, vi a0.Int_, vu a0.Re, vu a0.Im, vi a0.Hist.Scale, vu a0.Hist.Zero, vi a0.Hist.Pos.Offset, (Value.slice m n o), vi a0.Hist.Neg.Offset, (Value.slice p q r)] ty32 z z z) (.tmp z .nil)) ⟨(Value.slice m n o), (Value.slice p q r), z, (se_ aT z z), (Sl.outI gU aT low0 O0_A), (Sl.outI g1 aT low0 O0_A)⟩
theorem c_ref16_Next {A : Nat → Prop} {v0_9 : Value} {v0_11 : Value} {a0 : api_State} {v1_1 : Value} {v1_13 : Value} {v1_15 : Value} {a1 : api_Point} {a2 : Int} {w : World} (hs0_9 : Sl Rep.u w A v0_9 a0.Hist.Pos.Counts) (hs0_11 : Sl Rep.u w A v0_11 a0.Hist.Neg.Counts) (hs1_1 : Sl rep_api_Pair w A v1_1 a1.Attrs) (hs1_13 : Sl Rep.u w A v1_13 a1.Hist.Pos.Counts) (hs1_15 : Sl Rep.u w A v1_15 a1.Hist.Neg.Counts) {r0 : ref15_Step} (h : ref16_Next a0 a1 a2 = some r0) : Rets Try.prog 21 [ag [vB a0.Some, vi a0.Start, vi a0.Time, vi a0.Int_, vu a0.Re, vu a0.Im, vi a0.Hist.Scale, vu a0.Hist.Zero, vi a0.Hist.Pos.Offset, v0_9, vi a0.Hist.Neg.Offset, v0_11], ag [vs a1.Name, v1_1, vi a1.Kind, vi a1.Temp, vB a1.Mono, vi a1.Start, vi a1.Time, vi a1.Int_, vu a1.Re, vu a1.Im, vi a1.Hist.Scale, vu a1.Hist.Zero, vi a1.Hist.Pos.Offset, v1_13, vi a1.Hist.Neg.Offset, v1_15, vi a1.Flags], vi a2] w (fun v w' => ∃ (bs : Value) (aY : Value) (aZ : Value) (a3 : Value) (a4 : Value), v = ag [vB r0.S.Some, vi r0.S.Start, vi r0.S.Time, vi r0.S.Int_, vu r0.S.Re, vu r0.S.Im, vi r0.S.Hist.Scale, vu r0.S.Hist.Zero, vi r0.S.Hist.Pos.Offset, bs, vi r0.S.Hist.Neg.Offset, aY, vs r0.P.Name, aZ, vi r0.P.Kind, vi r0.P.Temp, vB r0.P.Mono, vi r0.P.Start, vi r0.P.Time, vi r0.P.Int_, vu r0.P.Re, vu r0.P.Im, vi r0.P.Hist.Scale, vu r0.P.Hist.Zero, vi r0.P.Hist.Pos.Offset, a3, vi r0.P.Hist.Neg.Offset, a4, vi r0.P.Flags, vi r0.E] ∧ Ext w w' ∧ Sl Rep.u w' (fun k => A k ∨ w.heap.size ≤ k) bs r0.S.Hist.Pos.Counts ∧ Sl Rep.u w' (fun k => A k ∨ w.heap.size ≤ k) aY r0.S.Hist.Neg.Counts ∧ Sl rep_api_Pair w' (fun k => A k ∨ w.heap.size ≤ k) aZ r0.P.Attrs ∧ Sl Rep.u w' (fun k => A k ∨ w.heap.size ≤ k) a3 r0.P.Hist.Pos.Counts ∧ Sl Rep.u w' (fun k => A k ∨ w.heap.size ≤ k) a4 r0.P.Hist.Neg.Counts) := by
 unfold ref16_Next at h
 refine Rets.enter Try.func21 z z ?_
 have bt : Sl Rep.u w (imm (Lg.O0 A)) v0_9 a0.Hist.Pos.Counts := (Sl.start hs0_9)
 have bu : Sl Rep.u w (imm (Lg.O0 A)) v0_11 a0.Hist.Neg.Counts := (Sl.start hs0_11)
 have fP : Sl rep_api_Pair w (imm (Lg.O0 A)) v1_1 a1.Attrs := (Sl.start hs1_1)
 have fQ : Sl Rep.u w (imm (Lg.O0 A)) v1_13 a1.Hist.Pos.Counts := (Sl.start hs1_13)
 have fR : Sl Rep.u w (imm (Lg.O0 A)) v1_15 a1.Hist.Neg.Counts := (Sl.start hs1_15)
 refine (show WC _ _ _ _ [(0, ag [vB a0.Some, vi a0.Start, vi a0.Time, vi a0.Int_, vu a0.Re, vu a0.Im, vi a0.Hist.Scale, vu a0.Hist.Zero, vi a0.Hist.Pos.Offset, v0_9, vi a0.Hist.Neg.Offset, v0_11]), (1, ag [vs a1.Name, v1_1, vi a1.Kind, vi a1.Temp, vB a1.Mono, vi a1.Start, vi a1.Time, vi a1.Int_, vu a1.Re, vu a1.Im, vi a1.Hist.Scale, vu a1.Hist.Zero, vi a1.Hist.Pos.Offset, v1_13, vi a1.Hist.Neg.Offset, v1_15, vi a1.Flags]), (2, vi a2)] _ from ?_)
 refine sq (rg ?_)
 have fT := h
 obtain ⟨bw, bx, bz, rfl⟩ := bt.shape
 have h := fT
 have fU := h
 obtain ⟨bA, bB, bC, rfl⟩ := bu.shape
 have h := fU
 refine WL.box (O := (Lg.O0 A)) 11 [vB a0.Some, vi a0.Start, vi a0.Time, vi a0.Int_, vu a0.Re, vu a0.Im, vi a0.Hist.Scale, vu a0.Hist.Zero, vi a0.Hist.Pos.Offset, (Value.slice bw bx bz), vi a0.Hist.Neg.Offset, (Value.slice bA bB bC)] z z z ?_
 intro a5 gn gV aa fV
 have bD := fP.i aa z z
 have fY := h
 obtain ⟨bE, bF, bG, rfl⟩ := bD.shape
 have h := fY
 have bH := fQ.i aa z z
 have f0 := h
 obtain ⟨bI, bJ, bK, rfl⟩ := bH.shape
 have h := f0
 have bL := fR.i aa z z
 have f1 := h
 obtain ⟨bM, bO, bP, rfl⟩ := bL.shape
 have h := f1
 refine WL.box (O := gn) 12 [vs a1.Name, (Value.slice bE bF bG), vi a1.Kind, vi a1.Temp, vB a1.Mono, vi a1.Start, vi a1.Time, vi a1.Int_, vu a1.Re, vu a1.Im, vi a1.Hist.Scale, vu a1.Hist.Zero, vi a1.Hist.Pos.Offset, (Value.slice bI bJ bK), vi a1.Hist.Neg.Offset, (Value.slice bM bO bP), vi a1.Flags] z z z ?_
 intro a6 gp gW Z f2
 refine WL.alloc (O := gp) 13 [vB false, vi 0, vi 0, vi 0, vu 0, vu 0, vi 0, vu 0, vi 0, Value.slice none 0 0, vi 0, Value.slice none 0 0, vs [], Value.slice none 0 0, vi 0, vi 0, vB false, vi 0, vi 0, vi 0, vu 0, vu 0, vi 0, vu 0, vi 0, Value.slice none 0 0, vi 0, Value.slice none 0 0, vi 0, vi 0] ty48 z z ?_
 intro a7 aS gX X ap
 refine nl (th (sq (rg ?_)))
 have bQ := f2.st X z
 refine wY (yL ty37 z z (bQ.cells 0 [vs a1.Name, (Value.slice bE bF bG), vi a1.Kind, vi a1.Temp, vB a1.Mono, vi a1.Start, vi a1.Time, vi a1.Int_, vu a1.Re, vu a1.Im, vi a1.Hist.Scale, vu a1.Hist.Zero, vi a1.Hist.Pos.Offset, (Value.slice bI bJ bK), vi a1.Hist.Neg.Offset, (Value.slice bM bO bP), vi a1.Flags] z) z) z (wY (ym z) z ?_)
 have f3 := bD.i Z z z
 have f4 := f3.i X z z
 have f5 := bH.i Z z z
 have f6 := f5.i X z z
 have f7 := bL.i Z z z
 have f8 := f7.i X z z
 obtain ⟨⟨c, aT⟩, f9, h⟩ := bnd h
 refine WL.call (vals := [ag [vs a1.Name, (Value.slice bE bF bG), vi a1.Kind, vi a1.Temp, vB a1.Mono, vi a1.Start, vi a1.Time, vi a1.Int_, vu a1.Re, vu a1.Im, vi a1.Hist.Scale, vu a1.Hist.Zero, vi a1.Hist.Pos.Offset, (Value.slice bI bJ bK), vi a1.Hist.Neg.Offset, (Value.slice bM bO bP), vi a1.Flags], vi 2, vi a2]) kok48 z z (c_ref15_Fits (A := imm aS) (a0 := a1) f4 f6 f8 f9) ?_
 rintro gY aU ⟨gq, gr, gs, rfl, ga, gt, gu, gw⟩
 obtain ⟨aA, aC, aD, I⟩ := adoptE aS (fun k => 1) ga
 have aG : Sl rep_api_Pair aU (imm aA) gq c.Attrs := Sl.adoptI (O := aS) gt (fun _ hk => hk) (fun _ _ => Nat.le_refl _) aC aD
 have aH : Sl Rep.u aU (imm aA) gr c.Hist.Pos.Counts := Sl.adoptI (O := aS) gu (fun _ hk => hk) (fun _ _ => Nat.le_refl _) aC aD
 have aI : Sl Rep.u aU (imm aA) gs c.Hist.Neg.Counts := Sl.adoptI (O := aS) gw (fun _ hk => hk) (fun _ _ => Nat.le_refl _) aC aD
 refine wY (ym z) z (wY (yx z z) z (wY (yx z z) z ?_))
 have gb := h
 obtain ⟨t, C, D, rfl⟩ := aG.shape
 have h := gb
 have gc := h
 obtain ⟨e, j, l, rfl⟩ := aH.shape
 have h := gc
 have gd := h
 obtain ⟨m, n, o, rfl⟩ := aI.shape
 have h := gd
 have ge := bQ.st I z
 refine WL.store (v := ag [vs c.Name, (Value.slice t C D), vi c.Kind, vi c.Temp, vB c.Mono, vi c.Start, vi c.Time, vi c.Int_, vu c.Re, vu c.Im, vi c.Hist.Scale, vu c.Hist.Zero, vi c.Hist.Pos.Offset, (Value.slice e j l), vi c.Hist.Neg.Offset, (Value.slice m n o), vi c.Flags]) (cells' := [vs c.Name, (Value.slice t C D), vi c.Kind, vi c.Temp, vB c.Mono, vi c.Start, vi c.Time, vi c.Int_, vu c.Re, vu c.Im, vi c.Hist.Scale, vu c.Hist.Zero, vi c.Hist.Pos.Offset, (Value.slice e j l), vi c.Hist.Neg.Offset, (Value.slice m n o), vi c.Flags]) ty37 z z ge z (le_ z) z z ?_
 intro bR F ak
 refine wY (ya z) z (nl (th (sq (sq (rg (wY (ym z) z (wY (Y.neq_i z z) z (nl (th ?_)))))))))
 rcases cnd h with ⟨aW, h⟩ | ⟨aW, h⟩
 ·refine WC.condT' z aW (sq (rg (wY (ym z) z (wY (yb (vals := [(2, vi aT)]) (cells := [vB false, vi 0, vi 0, vi 0, vu 0, vu 0, vi 0, vu 0, vi 0, Value.slice none 0 0, vi 0, Value.slice none 0 0, vs [], Value.slice none 0 0, vi 0, vi 0, vB false, vi 0, vi 0, vi 0, vu 0, vu 0, vi 0, vu 0, vi 0, Value.slice none 0 0, vi 0, Value.slice none 0 0, vi 0, vi aT]) (fe_ z) (by kernel_rfl)) z ?_))))
  have gf := ap.st I z
  have gg := gf.st F z
  refine WL.store (v := Value.agg (List.toArray [vB false, vi 0, vi 0, vi 0, vu 0, vu 0, vi 0, vu 0, vi 0, Value.slice none 0 0, vi 0, Value.slice none 0 0, vs [], Value.slice none 0 0, vi 0, vi 0, vB false, vi 0, vi 0, vi 0, vu 0, vu 0, vi 0, vu 0, vi 0, Value.slice none 0 0, vi 0, Value.slice none 0 0, vi 0, vi aT])) (cells' := [vB false, vi 0, vi 0, vi 0, vu 0, vu 0, vi 0, vu 0, vi 0, Value.slice none 0 0, vi 0, Value.slice none 0 0, vs [], Value.slice none 0 0, vi 0, vi 0, vB false, vi 0, vi 0, vi 0, vu 0, vu 0, vi 0, vu 0, vi 0, Value.slice none 0 0, vi 0, Value.slice none 0 0, vi 0, vi aT]) ty48 z z gg z (le_ z) z z ?_
  intro gh bS bX
  refine nl (th (rt (At.thenR ?_)))
  obtain rfl := some1 h
  have bY : Stp [12, 13] (Lg.O0 A) w aA gh := (tr_ (su_ aa z) (tr_ (su_ Z z) (tr_ (su_ X z) (tr_ (su_ I z) (tr_ (su_ F z) (su_ bS z))))))
  exact At.res (.inl z) z (.cell z (bX.runAg 0 [vB false, vi 0, vi 0, vi 0, vu 0, vu 0, vi 0, vu 0, vi 0, Value.slice none 0 0, vi 0, Value.slice none 0 0, vs [], Value.slice none 0 0, vi 0, vi 0, vB false, vi 0, vi 0, vi 0, vu 0, vu 0, vi 0, vu 0, vi 0, Value.slice none 0 0, vi 0, Value.slice none 0 0, vi 0, vi aT] ty48 z z z) .nil) ⟨Value.slice none 0 0, Value.slice none 0 0, Value.slice none 0 0, Value.slice none 0 0, Value.slice none 0 0, z, (se_ bY z z), (Or.inl ⟨z, z⟩), (Or.inl ⟨z, z⟩), (Or.inl ⟨z, z⟩), (Or.inl ⟨z, z⟩), (Or.inl ⟨z, z⟩)⟩
 ·refine WC.condF' z aW (sk (th (sq (sq (rg (wY (yf fo32_0 z) z ?_))))))
  have bZ := fV.st Z z
  have b0 := bZ.st X z
  have b1 := b0.st I z
  have aq := b1.st F z
  refine wY (yl ty4 z z (aq.cell 0 _ z)) z (wY (ym z) z ?_)
  refine WL.cut 6 (σ := Unit) (fun _ w' => bR = w') (fun _ => [(2, vi a2), (3, pt a5 0), (4, pt a6 0), (6, pt a7 0), (30, vB (a0.Some && (decide (c.Time ≤ a0.Time))))]) ?_ ?_
  ·refine WL.part 24 z (fun aJ => ?_) (fun aJ => ?_)
   ·refine ug z z (wY (yf fo37_6 z) z (ug z z (wY (yl ty3 z z (ak.cell 6 _ z)) z (ug z z (wY (yf fo32_2 z) z (ug z z (wY (yl ty3 z z (aq.cell 2 _ z)) z (ug z z (wY (Y.leq_i z z) z ?_)))))))))
    refine wY (Y.pick (b := true) z z) z (WL.ren (v' := vB (a0.Some && (decide (c.Time ≤ a0.Time)))) 30 z (congrArg vB (andT aJ)) ?_)
    exact nl (At.join () z (.cons z (.cons z (.cons z (.cons z (.cons z .nil))))))
   ·refine WL.gS z z z z (WL.gS z z z z (WL.gS z z z z (WL.gS z z z z (WL.gS z z z z (wY (Y.pick (b := false) z z) z (WL.ren (v' := vB (a0.Some && (decide (c.Time ≤ a0.Time)))) 30 z (congrArg vB (andF aJ)) ?_))))))
    exact nl (At.join () z (.cons z (.cons z (.cons z (.cons z (.cons z .nil))))))
  ·rintro _ _ rfl
   refine (show WL _ _ _ _ _ [(2, vi a2), (3, pt a5 0), (4, pt a6 0), (6, pt a7 0), (30, vB (a0.Some && (decide (c.Time ≤ a0.Time))))] _ from ?_)
   refine nl (th ?_)
   rcases cnd h with ⟨aK, h⟩ | ⟨aK, h⟩
   ·refine WC.condT' z aK (sq (rg (wY (yb (vals := [(2, vi 9)]) (cells := [vB false, vi 0, vi 0, vi 0, vu 0, vu 0, vi 0, vu 0, vi 0, Value.slice none 0 0, vi 0, Value.slice none 0 0, vs [], Value.slice none 0 0, vi 0, vi 0, vB false, vi 0, vi 0, vi 0, vu 0, vu 0, vi 0, vu 0, vi 0, Value.slice none 0 0, vi 0, Value.slice none 0 0, vi 0, vi 9]) (fe_ z) (by kernel_rfl)) z ?_)))
    have b2 := ap.st I z
    have b3 := b2.st F z
    refine WL.store (v := Value.agg (List.toArray [vB false, vi 0, vi 0, vi 0, vu 0, vu 0, vi 0, vu 0, vi 0, Value.slice none 0 0, vi 0, Value.slice none 0 0, vs [], Value.slice none 0 0, vi 0, vi 0, vB false, vi 0, vi 0, vi 0, vu 0, vu 0, vi 0, vu 0, vi 0, Value.slice none 0 0, vi 0, Value.slice none 0 0, vi 0, vi 9])) (cells' := [vB false, vi 0, vi 0, vi 0, vu 0, vu 0, vi 0, vu 0, vi 0, Value.slice none 0 0, vi 0, Value.slice none 0 0, vs [], Value.slice none 0 0, vi 0, vi 0, vB false, vi 0, vi 0, vi 0, vu 0, vu 0, vi 0, vu 0, vi 0, Value.slice none 0 0, vi 0, Value.slice none 0 0, vi 0, vi 9]) ty48 z z b3 z (le_ z) z z ?_
    intro b4 bT b5
    refine nl (th (rt (At.thenR ?_)))
    obtain rfl := some1 h
    have b6 : Stp [12, 13] (Lg.O0 A) w aA b4 := (tr_ (su_ aa z) (tr_ (su_ Z z) (tr_ (su_ X z) (tr_ (su_ I z) (tr_ (su_ F z) (su_ bT z))))))
    exact At.res (.inl z) z (.cell z (b5.runAg 0 [vB false, vi 0, vi 0, vi 0, vu 0, vu 0, vi 0, vu 0, vi 0, Value.slice none 0 0, vi 0, Value.slice none 0 0, vs [], Value.slice none 0 0, vi 0, vi 0, vB false, vi 0, vi 0, vi 0, vu 0, vu 0, vi 0, vu 0, vi 0, Value.slice none 0 0, vi 0, Value.slice none 0 0, vi 0, vi 9] ty48 z z z) .nil) ⟨Value.slice none 0 0, Value.slice none 0 0, Value.slice none 0 0, Value.slice none 0 0, Value.slice none 0 0, z, (se_ b6 z z), (Or.inl ⟨z, z⟩), (Or.inl ⟨z, z⟩), (Or.inl ⟨z, z⟩), (Or.inl ⟨z, z⟩), (Or.inl ⟨z, z⟩)⟩
   ·refine WC.condF' z aK (sk (th (sq (sq (rg (wY (yf fo32_0 z) z (wY (yl ty4 z z (aq.cell 0 _ z)) z (wY (ym z) z ?_))))))))
    refine WL.cut 6 (σ := Unit) (fun _ w' => bR = w') (fun _ => [(2, vi a2), (3, pt a5 0), (4, pt a6 0), (6, pt a7 0), (40, vB (a0.Some && (decide (c.Start < a0.Time))))]) ?_ ?_
    ·refine WL.part 34 z (fun aL => ?_) (fun aL => ?_)
     ·refine ug z z (wY (yf fo37_5 z) z (ug z z (wY (yl ty3 z z (ak.cell 5 _ z)) z (ug z z (wY (yf fo32_2 z) z (ug z z (wY (yl ty3 z z (aq.cell 2 _ z)) z (ug z z (wY (Y.lss_i z z) z ?_)))))))))
      refine wY (Y.pick (b := true) z z) z (WL.ren (v' := vB (a0.Some && (decide (c.Start < a0.Time)))) 40 z (congrArg vB (andT aL)) ?_)
      exact nl (At.join () z (.cons z (.cons z (.cons z (.cons z (.cons z .nil))))))
     ·refine WL.gS z z z z (WL.gS z z z z (WL.gS z z z z (WL.gS z z z z (WL.gS z z z z (wY (Y.pick (b := false) z z) z (WL.ren (v' := vB (a0.Some && (decide (c.Start < a0.Time)))) 40 z (congrArg vB (andF aL)) ?_))))))
      exact nl (At.join () z (.cons z (.cons z (.cons z (.cons z (.cons z .nil))))))
    ·rintro _ _ rfl
     refine (show WL _ _ _ _ _ [(2, vi a2), (3, pt a5 0), (4, pt a6 0), (6, pt a7 0), (40, vB (a0.Some && (decide (c.Start < a0.Time))))] _ from ?_)
     refine nl (th ?_)
     rcases cnd h with ⟨aM, h⟩ | ⟨aM, h⟩
     ·refine WC.condT' z aM (sq (rg (wY (yb (vals := [(2, vi 10)]) (cells := [vB false, vi 0, vi 0, vi 0, vu 0, vu 0, vi 0, vu 0, vi 0, Value.slice none 0 0, vi 0, Value.slice none 0 0, vs [], Value.slice none 0 0, vi 0, vi 0, vB false, vi 0, vi 0, vi 0, vu 0, vu 0, vi 0, vu 0, vi 0, Value.slice none 0 0, vi 0, Value.slice none 0 0, vi 0, vi 10]) (fe_ z) (by kernel_rfl)) z ?_)))
      have b7 := ap.st I z
      have b8 := b7.st F z
      refine WL.store (v := Value.agg (List.toArray [vB false, vi 0, vi 0, vi 0, vu 0, vu 0, vi 0, vu 0, vi 0, Value.slice none 0 0, vi 0, Value.slice none 0 0, vs [], Value.slice none 0 0, vi 0, vi 0, vB false, vi 0, vi 0, vi 0, vu 0, vu 0, vi 0, vu 0, vi 0, Value.slice none 0 0, vi 0, Value.slice none 0 0, vi 0, vi 10])) (cells' := [vB false, vi 0, vi 0, vi 0, vu 0, vu 0, vi 0, vu 0, vi 0, Value.slice none 0 0, vi 0, Value.slice none 0 0, vs [], Value.slice none 0 0, vi 0, vi 0, vB false, vi 0, vi 0, vi 0, vu 0, vu 0, vi 0, vu 0, vi 0, Value.slice none 0 0, vi 0, Value.slice none 0 0, vi 0, vi 10]) ty48 z z b8 z (le_ z) z z ?_
      intro b9 bU ca
      refine nl (th (rt (At.thenR ?_)))
      obtain rfl := some1 h
      have cb : Stp [12, 13] (Lg.O0 A) w aA b9 := (tr_ (su_ aa z) (tr_ (su_ Z z) (tr_ (su_ X z) (tr_ (su_ I z) (tr_ (su_ F z) (su_ bU z))))))
      exact At.res (.inl z) z (.cell z (ca.runAg 0 [vB false, vi 0, vi 0, vi 0, vu 0, vu 0, vi 0, vu 0, vi 0, Value.slice none 0 0, vi 0, Value.slice none 0 0, vs [], Value.slice none 0 0, vi 0, vi 0, vB false, vi 0, vi 0, vi 0, vu 0, vu 0, vi 0, vu 0, vi 0, Value.slice none 0 0, vi 0, Value.slice none 0 0, vi 0, vi 10] ty48 z z z) .nil) ⟨Value.slice none 0 0, Value.slice none 0 0, Value.slice none 0 0, Value.slice none 0 0, Value.slice none 0 0, z, (se_ cb z z), (Or.inl ⟨z, z⟩), (Or.inl ⟨z, z⟩), (Or.inl ⟨z, z⟩), (Or.inl ⟨z, z⟩), (Or.inl ⟨z, z⟩)⟩
     ·refine WC.condF' z aM (sk (th (sq (rg (wY (yf fo37_5 z) z (wY (yl ty3 z z (ak.cell 5 _ z)) z (wY (yf fo37_6 z) z (wY (yl ty3 z z (ak.cell 6 _ z)) z (wY (yf fo37_7 z) z ?_)))))))))
      refine wY (yl ty3 z z (ak.cell 7 _ z)) z (wY (yf fo37_8 z) z (wY (yl ty25 z z (ak.cell 8 _ z)) z (wY (yf fo37_9 z) z (wY (yl ty25 z z (ak.cell 9 _ z)) z (wY (yf fo37_10 z) z (wY (yL ty30 z z (ak.cells 10 [vi c.Hist.Scale, vu c.Hist.Zero, vi c.Hist.Pos.Offset, (Value.slice e j l), vi c.Hist.Neg.Offset, (Value.slice m n o)] z) z) z (wY (yb (vals := [(0, vB true), (1, vi c.Start), (2, vi c.Time), (3, vi c.Int_), (4, vu c.Re), (5, vu c.Im), (6, ag [vi c.Hist.Scale, vu c.Hist.Zero, vi c.Hist.Pos.Offset, (Value.slice e j l), vi c.Hist.Neg.Offset, (Value.slice m n o)])]) (cells := [vB true, vi c.Start, vi c.Time, vi c.Int_, vu c.Re, vu c.Im, vi c.Hist.Scale, vu c.Hist.Zero, vi c.Hist.Pos.Offset, (Value.slice e j l), vi c.Hist.Neg.Offset, (Value.slice m n o)]) (fe_ z) (by kernel_rfl)) z (WL.alloc (O := aA) 14 [vB false, vi 0, vi 0, vi 0, vu 0, vu 0, vi 0, vu 0, vi 0, Value.slice none 0 0, vi 0, Value.slice none 0 0] ty32 z z ?_))))))))
      intro gZ gi gz G cc
      refine WL.store (v := ag [vB true, vi c.Start, vi c.Time, vi c.Int_, vu c.Re, vu c.Im, vi c.Hist.Scale, vu c.Hist.Zero, vi c.Hist.Pos.Offset, (Value.slice e j l), vi c.Hist.Neg.Offset, (Value.slice m n o)]) (cells' := [vB true, vi c.Start, vi c.Time, vi c.Int_, vu c.Re, vu c.Im, vi c.Hist.Scale, vu c.Hist.Zero, vi c.Hist.Pos.Offset, (Value.slice e j l), vi c.Hist.Neg.Offset, (Value.slice m n o)]) ty32 z z cc z (le_ z) z z ?_
      intro gB H aN
      refine nl (th (sq (rg ?_)))
      have cd := ak.st G z
      have a8 := cd.st H z
      refine wY (yL ty37 z z (a8.cells 0 [vs c.Name, (Value.slice t C D), vi c.Kind, vi c.Temp, vB c.Mono, vi c.Start, vi c.Time, vi c.Int_, vu c.Re, vu c.Im, vi c.Hist.Scale, vu c.Hist.Zero, vi c.Hist.Pos.Offset, (Value.slice e j l), vi c.Hist.Neg.Offset, (Value.slice m n o), vi c.Flags] z) z) z (WL.alloc (O := gi) 15 [vs [], Value.slice none 0 0, vi 0, vi 0, vB false, vi 0, vi 0, vi 0, vu 0, vu 0, vi 0, vu 0, vi 0, Value.slice none 0 0, vi 0, Value.slice none 0 0, vi 0] ty37 z z ?_)
      intro g0 ax gC p ce
      refine WL.store (v := ag [vs c.Name, (Value.slice t C D), vi c.Kind, vi c.Temp, vB c.Mono, vi c.Start, vi c.Time, vi c.Int_, vu c.Re, vu c.Im, vi c.Hist.Scale, vu c.Hist.Zero, vi c.Hist.Pos.Offset, (Value.slice e j l), vi c.Hist.Neg.Offset, (Value.slice m n o), vi c.Flags]) (cells' := [vs c.Name, (Value.slice t C D), vi c.Kind, vi c.Temp, vB c.Mono, vi c.Start, vi c.Time, vi c.Int_, vu c.Re, vu c.Im, vi c.Hist.Scale, vu c.Hist.Zero, vi c.Hist.Pos.Offset, (Value.slice e j l), vi c.Hist.Neg.Offset, (Value.slice m n o), vi c.Flags]) ty37 z z ce z (le_ z) z z ?_
      intro gE q cf
      refine nl (th (sq (rg (wY (yf fo37_3 z) z (WL.store (v := vi 1) (cells' := [vs c.Name, (Value.slice t C D), vi c.Kind, vi 1, vB c.Mono, vi c.Start, vi c.Time, vi c.Int_, vu c.Re, vu c.Im, vi c.Hist.Scale, vu c.Hist.Zero, vi c.Hist.Pos.Offset, (Value.slice e j l), vi c.Hist.Neg.Offset, (Value.slice m n o), vi c.Flags]) ty3 z z cf z (le_ z) z z ?_)))))
      intro gG r ay
      refine nl (th (sq (sq (rg (wY (yf fo32_0 z) z ?_)))))
      have cg := aq.st G z
      have ch := cg.st H z
      have ci := ch.st p z
      have cj := ci.st q z
      have az := cj.st r z
      refine wY (yl ty4 z z (az.cell 0 _ z)) z (wY (Y.not z) z (nl (th ?_)))
      rcases cnd h with ⟨aO, h⟩ | ⟨aO, h⟩
      ·refine WC.condT' z aO (sq (rg (wY (yf fo37_11 z) z (WL.store (v := vi 1) (cells' := [vs c.Name, (Value.slice t C D), vi c.Kind, vi 1, vB c.Mono, vi c.Start, vi c.Time, vi c.Int_, vu c.Re, vu c.Im, vi c.Hist.Scale, vu c.Hist.Zero, vi c.Hist.Pos.Offset, (Value.slice e j l), vi c.Hist.Neg.Offset, (Value.slice m n o), vi 1]) ty3 z z ay z (le_ z) z z ?_))))
       intro gH ab ck
       refine nl (th (sq (rg ?_)))
       have cl := aN.st p z
       have cm := cl.st q z
       have cn := cm.st r z
       have co := cn.st ab z
       refine wY (yL ty32 z z (co.cells 0 [vB true, vi c.Start, vi c.Time, vi c.Int_, vu c.Re, vu c.Im, vi c.Hist.Scale, vu c.Hist.Zero, vi c.Hist.Pos.Offset, (Value.slice e j l), vi c.Hist.Neg.Offset, (Value.slice m n o)] z) z) z (wY (yL ty37 z z (ck.cells 0 [vs c.Name, (Value.slice t C D), vi c.Kind, vi 1, vB c.Mono, vi c.Start, vi c.Time, vi c.Int_, vu c.Re, vu c.Im, vi c.Hist.Scale, vu c.Hist.Zero, vi c.Hist.Pos.Offset, (Value.slice e j l), vi c.Hist.Neg.Offset, (Value.slice m n o), vi 1] z) z) z (wY (yb (vals := [(0, ag [vB true, vi c.Start, vi c.Time, vi c.Int_, vu c.Re, vu c.Im, vi c.Hist.Scale, vu c.Hist.Zero, vi c.Hist.Pos.Offset, (Value.slice e j l), vi c.Hist.Neg.Offset, (Value.slice m n o)]), (1, ag [vs c.Name, (Value.slice t C D), vi c.Kind, vi 1, vB c.Mono, vi c.Start, vi c.Time, vi c.Int_, vu c.Re, vu c.Im, vi c.Hist.Scale, vu c.Hist.Zero, vi c.Hist.Pos.Offset, (Value.slice e j l), vi c.Hist.Neg.Offset, (Value.slice m n o), vi 1])]) (cells := [vB true, vi c.Start, vi c.Time, vi c.Int_, vu c.Re, vu c.Im, vi c.Hist.Scale, vu c.Hist.Zero, vi c.Hist.Pos.Offset, (Value.slice e j l), vi c.Hist.Neg.Offset, (Value.slice m n o), vs c.Name, (Value.slice t C D), vi c.Kind, vi 1, vB c.Mono, vi c.Start, vi c.Time, vi c.Int_, vu c.Re, vu c.Im, vi c.Hist.Scale, vu c.Hist.Zero, vi c.Hist.Pos.Offset, (Value.slice e j l), vi c.Hist.Neg.Offset, (Value.slice m n o), vi 1, vi 0]) (fe_ z) (by kernel_rfl)) z ?_))
       have cp := ap.st I z
       have cq := cp.st F z
       have cr := cq.st G z
       have cs := cr.st H z
       have ct := cs.st p z
       have cu := ct.st q z
       have cv := cu.st r z
       have cw := cv.st ab z
       refine WL.store (v := ag [vB true, vi c.Start, vi c.Time, vi c.Int_, vu c.Re, vu c.Im, vi c.Hist.Scale, vu c.Hist.Zero, vi c.Hist.Pos.Offset, (Value.slice e j l), vi c.Hist.Neg.Offset, (Value.slice m n o), vs c.Name, (Value.slice t C D), vi c.Kind, vi 1, vB c.Mono, vi c.Start, vi c.Time, vi c.Int_, vu c.Re, vu c.Im, vi c.Hist.Scale, vu c.Hist.Zero, vi c.Hist.Pos.Offset, (Value.slice e j l), vi c.Hist.Neg.Offset, (Value.slice m n o), vi 1, vi 0]) (cells' := [vB true, vi c.Start, vi c.Time, vi c.Int_, vu c.Re, vu c.Im, vi c.Hist.Scale, vu c.Hist.Zero, vi c.Hist.Pos.Offset, (Value.slice e j l), vi c.Hist.Neg.Offset, (Value.slice m n o), vs c.Name, (Value.slice t C D), vi c.Kind, vi 1, vB c.Mono, vi c.Start, vi c.Time, vi c.Int_, vu c.Re, vu c.Im, vi c.Hist.Scale, vu c.Hist.Zero, vi c.Hist.Pos.Offset, (Value.slice e j l), vi c.Hist.Neg.Offset, (Value.slice m n o), vi 1, vi 0]) ty48 z z cw z (le_ z) z z ?_
       intro cx ar cy
       refine nl (th (rt (At.thenR ?_)))
       obtain rfl := some1 h
       have al : Stp [12, 13, 14, 15] (Lg.O0 A) w ax cx := (tr_ (su_ aa z) (tr_ (su_ Z z) (tr_ (su_ X z) (tr_ (su_ I z) (tr_ (su_ F z) (tr_ (su_ G z) (tr_ (su_ H z) (tr_ (su_ p z) (tr_ (su_ q z) (tr_ (su_ r z) (tr_ (su_ ab z) (su_ ar z))))))))))))
       have cz := aH.i F z z
       have cA := cz.i G z z
       have cC := cA.i H z z
       have cD := cC.i p z z
       have cE := cD.i q z z
       have cF := cE.i r z z
       have cG := cF.i ab z z
       have a9 := cG.i ar z z
       have cH := aI.i F z z
       have cI := cH.i G z z
       have cJ := cI.i H z z
       have cK := cJ.i p z z
       have cL := cK.i q z z
       have cM := cL.i r z z
       have cN := cM.i ab z z
       have ba := cN.i ar z z
       have cO := aG.i F z z
       have cP := cO.i G z z
       have cQ := cP.i H z z
       have cR := cQ.i p z z
       have cS := cR.i q z z
       have cT := cS.i r z z
       have cU := cT.i ab z z
       have cV := cU.i ar z z
       exact At.res (.inl z) z (.cell z (cy.runAg 0 [vB true, vi c.Start, vi c.Time, vi c.Int_, vu c.Re, vu c.Im, vi c.Hist.Scale, vu c.Hist.Zero, vi c.Hist.Pos.Offset, (Value.slice e j l), vi c.Hist.Neg.Offset, (Value.slice m n o), vs c.Name, (Value.slice t C D), vi c.Kind, vi 1, vB c.Mono, vi c.Start, vi c.Time, vi c.Int_, vu c.Re, vu c.Im, vi c.Hist.Scale, vu c.Hist.Zero, vi c.Hist.Pos.Offset, (Value.slice e j l), vi c.Hist.Neg.Offset, (Value.slice m n o), vi 1, vi 0] ty48 z z z) .nil) ⟨(Value.slice e j l), (Value.slice m n o), (Value.slice t C D), (Value.slice e j l), (Value.slice m n o), z, (se_ al z z), (Sl.outI a9 al low0 O0_A), (Sl.outI ba al low0 O0_A), (Sl.outI cV al low0 O0_A), (Sl.outI a9 al low0 O0_A), (Sl.outI ba al low0 O0_A)⟩
      ·refine WC.condF' z aO (sk (th (sq (sq (rg (wY (yf fo37_5 z) z ?_))))))
       have cW := a8.st p z
       have cX := cW.st q z
       have bb := cX.st r z
       refine wY (yl ty3 z z (bb.cell 5 _ z)) z (wY (yf fo32_2 z) z (wY (yl ty3 z z (az.cell 2 _ z)) z (wY (Y.gtr_i z z) z (nl (th ?_)))))
       rcases cnd h with ⟨aP, h⟩ | ⟨aP, h⟩
       ·refine WC.condT' z aP (sq (rg (wY (yf fo37_11 z) z (WL.store (v := vi 8) (cells' := [vs c.Name, (Value.slice t C D), vi c.Kind, vi 1, vB c.Mono, vi c.Start, vi c.Time, vi c.Int_, vu c.Re, vu c.Im, vi c.Hist.Scale, vu c.Hist.Zero, vi c.Hist.Pos.Offset, (Value.slice e j l), vi c.Hist.Neg.Offset, (Value.slice m n o), vi 8]) ty3 z z ay z (le_ z) z z ?_))))
        intro gI ac cY
        refine nl (th (sq (rg ?_)))
        have cZ := aN.st p z
        have c0 := cZ.st q z
        have c1 := c0.st r z
        have c2 := c1.st ac z
        refine wY (yL ty32 z z (c2.cells 0 [vB true, vi c.Start, vi c.Time, vi c.Int_, vu c.Re, vu c.Im, vi c.Hist.Scale, vu c.Hist.Zero, vi c.Hist.Pos.Offset, (Value.slice e j l), vi c.Hist.Neg.Offset, (Value.slice m n o)] z) z) z (wY (yL ty37 z z (cY.cells 0 [vs c.Name, (Value.slice t C D), vi c.Kind, vi 1, vB c.Mono, vi c.Start, vi c.Time, vi c.Int_, vu c.Re, vu c.Im, vi c.Hist.Scale, vu c.Hist.Zero, vi c.Hist.Pos.Offset, (Value.slice e j l), vi c.Hist.Neg.Offset, (Value.slice m n o), vi 8] z) z) z (wY (yb (vals := [(0, ag [vB true, vi c.Start, vi c.Time, vi c.Int_, vu c.Re, vu c.Im, vi c.Hist.Scale, vu c.Hist.Zero, vi c.Hist.Pos.Offset, (Value.slice e j l), vi c.Hist.Neg.Offset, (Value.slice m n o)]), (1, ag [vs c.Name, (Value.slice t C D), vi c.Kind, vi 1, vB c.Mono, vi c.Start, vi c.Time, vi c.Int_, vu c.Re, vu c.Im, vi c.Hist.Scale, vu c.Hist.Zero, vi c.Hist.Pos.Offset, (Value.slice e j l), vi c.Hist.Neg.Offset, (Value.slice m n o), vi 8])]) (cells := [vB true, vi c.Start, vi c.Time, vi c.Int_, vu c.Re, vu c.Im, vi c.Hist.Scale, vu c.Hist.Zero, vi c.Hist.Pos.Offset, (Value.slice e j l), vi c.Hist.Neg.Offset, (Value.slice m n o), vs c.Name, (Value.slice t C D), vi c.Kind, vi 1, vB c.Mono, vi c.Start, vi c.Time, vi c.Int_, vu c.Re, vu c.Im, vi c.Hist.Scale, vu c.Hist.Zero, vi c.Hist.Pos.Offset, (Value.slice e j l), vi c.Hist.Neg.Offset, (Value.slice m n o), vi 8, vi 0]) (fe_ z) (by kernel_rfl)) z ?_))
        have c3 := ap.st I z
        have c4 := c3.st F z
        have c5 := c4.st G z
        have c6 := c5.st H z
        have c7 := c6.st p z
        have c8 := c7.st q z
        have c9 := c8.st r z
        have da := c9.st ac z
        refine WL.store (v := ag [vB true, vi c.Start, vi c.Time, vi c.Int_, vu c.Re, vu c.Im, vi c.Hist.Scale, vu c.Hist.Zero, vi c.Hist.Pos.Offset, (Value.slice e j l), vi c.Hist.Neg.Offset, (Value.slice m n o), vs c.Name, (Value.slice t C D), vi c.Kind, vi 1, vB c.Mono, vi c.Start, vi c.Time, vi c.Int_, vu c.Re, vu c.Im, vi c.Hist.Scale, vu c.Hist.Zero, vi c.Hist.Pos.Offset, (Value.slice e j l), vi c.Hist.Neg.Offset, (Value.slice m n o), vi 8, vi 0]) (cells' := [vB true, vi c.Start, vi c.Time, vi c.Int_, vu c.Re, vu c.Im, vi c.Hist.Scale, vu c.Hist.Zero, vi c.Hist.Pos.Offset, (Value.slice e j l), vi c.Hist.Neg.Offset, (Value.slice m n o), vs c.Name, (Value.slice t C D), vi c.Kind, vi 1, vB c.Mono, vi c.Start, vi c.Time, vi c.Int_, vu c.Re, vu c.Im, vi c.Hist.Scale, vu c.Hist.Zero, vi c.Hist.Pos.Offset, (Value.slice e j l), vi c.Hist.Neg.Offset, (Value.slice m n o), vi 8, vi 0]) ty48 z z da z (le_ z) z z ?_
        intro db au dc
        refine nl (th (rt (At.thenR ?_)))
        obtain rfl := some1 h
        have am : Stp [12, 13, 14, 15] (Lg.O0 A) w ax db := (tr_ (su_ aa z) (tr_ (su_ Z z) (tr_ (su_ X z) (tr_ (su_ I z) (tr_ (su_ F z) (tr_ (su_ G z) (tr_ (su_ H z) (tr_ (su_ p z) (tr_ (su_ q z) (tr_ (su_ r z) (tr_ (su_ ac z) (su_ au z))))))))))))
        have dd := aH.i F z z
        have de := dd.i G z z
        have df := de.i H z z
        have dg := df.i p z z
        have dh := dg.i q z z
        have di := dh.i r z z
        have dj := di.i ac z z
        have bc := dj.i au z z
        have dk := aI.i F z z
        have dl := dk.i G z z
        have dm := dl.i H z z
        have dn := dm.i p z z
        have dp := dn.i q z z
        have dr := dp.i r z z
        have ds := dr.i ac z z
        have bd := ds.i au z z
        have dt := aG.i F z z
        have du := dt.i G z z
        have dw := du.i H z z
        have dx := dw.i p z z
        have dy := dx.i q z z
        have dz := dy.i r z z
        have dA := dz.i ac z z
        have dB := dA.i au z z
        exact At.res (.inl z) z (.cell z (dc.runAg 0 [vB true, vi c.Start, vi c.Time, vi c.Int_, vu c.Re, vu c.Im, vi c.Hist.Scale, vu c.Hist.Zero, vi c.Hist.Pos.Offset, (Value.slice e j l), vi c.Hist.Neg.Offset, (Value.slice m n o), vs c.Name, (Value.slice t C D), vi c.Kind, vi 1, vB c.Mono, vi c.Start, vi c.Time, vi c.Int_, vu c.Re, vu c.Im, vi c.Hist.Scale, vu c.Hist.Zero, vi c.Hist.Pos.Offset, (Value.slice e j l), vi c.Hist.Neg.Offset, (Value.slice m n o), vi 8, vi 0] ty48 z z z) .nil) ⟨(Value.slice e j l), (Value.slice m n o), (Value.slice t C D), (Value.slice e j l), (Value.slice m n o), z, (se_ am z z), (Sl.outI bc am low0 O0_A), (Sl.outI bd am low0 O0_A), (Sl.outI dB am low0 O0_A), (Sl.outI bc am low0 O0_A), (Sl.outI bd am low0 O0_A)⟩
       ·refine WC.condF' z aP (sk (th (sq (rg (wY (yL ty32 z z (az.cells 0 [vB a0.Some, vi a0.Start, vi a0.Time, vi a0.Int_, vu a0.Re, vu a0.Im, vi a0.Hist.Scale, vu a0.Hist.Zero, vi a0.Hist.Pos.Offset, (Value.slice bw bx bz), vi a0.Hist.Neg.Offset, (Value.slice bA bB bC)] z) z) z (wY (yL ty37 z z (bb.cells 0 [vs c.Name, (Value.slice t C D), vi c.Kind, vi c.Temp, vB c.Mono, vi c.Start, vi c.Time, vi c.Int_, vu c.Re, vu c.Im, vi c.Hist.Scale, vu c.Hist.Zero, vi c.Hist.Pos.Offset, (Value.slice e j l), vi c.Hist.Neg.Offset, (Value.slice m n o), vi c.Flags] z) z) z (wY (ym z) z ?_)))))))
        have dC := bt.i aa z z
        have dD := dC.i Z z z
        have dE := dD.i X z z
        have dF := dE.i I z z
        have dG := dF.i F z z
        have dH := dG.i G z z
        have dI := dH.i H z z
        have dJ := dI.i p z z
        have dK := dJ.i q z z
        have dL := dK.i r z z
        have dM := bu.i aa z z
        have dN := dM.i Z z z
        have dO := dN.i X z z
        have dP := dO.i I z z
        have dQ := dP.i F z z
        have dR := dQ.i G z z
        have dS := dR.i H z z
        have dT := dS.i p z z
        have dU := dT.i q z z
        have dV := dU.i r z z
        have dW := aG.i F z z
        have dX := dW.i G z z
        have dY := dX.i H z z
        have dZ := dY.i p z z
        have d0 := dZ.i q z z
        have aQ := d0.i r z z
        have d1 := aH.i F z z
        have d2 := d1.i G z z
        have d3 := d2.i H z z
        have d4 := d3.i p z z
        have d5 := d4.i q z z
        have bf := d5.i r z z
        have d6 := aI.i F z z
        have d7 := d6.i G z z
        have d8 := d7.i H z z
        have d9 := d8.i p z z
        have ea := d9.i q z z
        have bg := ea.i r z z
        obtain ⟨⟨d, g1⟩, eb, h⟩ := bnd h
        refine WL.call (vals := [ag [vB a0.Some, vi a0.Start, vi a0.Time, vi a0.Int_, vu a0.Re, vu a0.Im, vi a0.Hist.Scale, vu a0.Hist.Zero, vi a0.Hist.Pos.Offset, (Value.slice bw bx bz), vi a0.Hist.Neg.Offset, (Value.slice bA bB bC)], ag [vs c.Name, (Value.slice t C D), vi c.Kind, vi c.Temp, vB c.Mono, vi c.Start, vi c.Time, vi c.Int_, vu c.Re, vu c.Im, vi c.Hist.Scale, vu c.Hist.Zero, vi c.Hist.Pos.Offset, (Value.slice e j l), vi c.Hist.Neg.Offset, (Value.slice m n o), vi c.Flags], vi a2]) kok49 z z (c_ref16_sum (A := imm ax) (a0 := a0) (a1 := c) dL dV aQ bf bg eb) ?_
        rintro gJ bh ⟨gj, gk, rfl, ec, gl, gm⟩
        obtain ⟨aX, aE, aF, W⟩ := adoptE ax (fun k => 1) ec
        have ed : Sl Rep.u bh (imm aX) gj d.Hist.Pos.Counts := Sl.adoptI (O := ax) gl (fun _ hk => hk) (fun _ _ => Nat.le_refl _) aE aF
        have ee : Sl Rep.u bh (imm aX) gk d.Hist.Neg.Counts := Sl.adoptI (O := ax) gm (fun _ hk => hk) (fun _ _ => Nat.le_refl _) aE aF
        refine wY (ym z) z (wY (yx z z) z (wY (yx z z) z (WL.alloc (O := aX) 16 [vB false, vi 0, vi 0, vi 0, vu 0, vu 0, vi 0, vu 0, vi 0, Value.slice none 0 0, vi 0, Value.slice none 0 0] ty32 z z ?_)))
        intro g2 bW gK J ef
        have bi := ed.i J z z
        have eg := h
        obtain ⟨L, M, Q, rfl⟩ := bi.shape
        have h := eg
        have bj := ee.i J z z
        have eh := h
        obtain ⟨T, U, V, rfl⟩ := bj.shape
        have h := eh
        refine WL.store (v := ag [vB d.Some, vi d.Start, vi d.Time, vi d.Int_, vu d.Re, vu d.Im, vi d.Hist.Scale, vu d.Hist.Zero, vi d.Hist.Pos.Offset, (Value.slice L M Q), vi d.Hist.Neg.Offset, (Value.slice T U V)]) (cells' := [vB d.Some, vi d.Start, vi d.Time, vi d.Int_, vu d.Re, vu d.Im, vi d.Hist.Scale, vu d.Hist.Zero, vi d.Hist.Pos.Offset, (Value.slice L M Q), vi d.Hist.Neg.Offset, (Value.slice T U V)]) ty32 z z ef z (le_ z) z z ?_
        intro gL K ei
        refine wY (ya z) z (nl (th (sq (sq (rg (wY (ym z) z (wY (Y.not z) z (nl (th ?_)))))))))
        rcases cnd h with ⟨aR, h⟩ | ⟨aR, h⟩
        ·refine WC.condT' z aR (sq (rg (wY (yf fo37_11 z) z ?_)))
         have ej := ay.st W z
         have ek := ej.st J z
         have em := ek.st K z
         refine WL.store (v := vi 16) (cells' := [vs c.Name, (Value.slice t C D), vi c.Kind, vi 1, vB c.Mono, vi c.Start, vi c.Time, vi c.Int_, vu c.Re, vu c.Im, vi c.Hist.Scale, vu c.Hist.Zero, vi c.Hist.Pos.Offset, (Value.slice e j l), vi c.Hist.Neg.Offset, (Value.slice m n o), vi 16]) ty3 z z em z (le_ z) z z ?_
         intro gM ad en
         refine nl (th (sq (rg ?_)))
         have eo := aN.st p z
         have ep := eo.st q z
         have er := ep.st r z
         have es := er.st W z
         have et := es.st J z
         have eu := et.st K z
         have ew := eu.st ad z
         refine wY (yL ty32 z z (ew.cells 0 [vB true, vi c.Start, vi c.Time, vi c.Int_, vu c.Re, vu c.Im, vi c.Hist.Scale, vu c.Hist.Zero, vi c.Hist.Pos.Offset, (Value.slice e j l), vi c.Hist.Neg.Offset, (Value.slice m n o)] z) z) z (wY (yL ty37 z z (en.cells 0 [vs c.Name, (Value.slice t C D), vi c.Kind, vi 1, vB c.Mono, vi c.Start, vi c.Time, vi c.Int_, vu c.Re, vu c.Im, vi c.Hist.Scale, vu c.Hist.Zero, vi c.Hist.Pos.Offset, (Value.slice e j l), vi c.Hist.Neg.Offset, (Value.slice m n o), vi 16] z) z) z (wY (yb (vals := [(0, ag [vB true, vi c.Start, vi c.Time, vi c.Int_, vu c.Re, vu c.Im, vi c.Hist.Scale, vu c.Hist.Zero, vi c.Hist.Pos.Offset, (Value.slice e j l), vi c.Hist.Neg.Offset, (Value.slice m n o)]), (1, ag [vs c.Name, (Value.slice t C D), vi c.Kind, vi 1, vB c.Mono, vi c.Start, vi c.Time, vi c.Int_, vu c.Re, vu c.Im, vi c.Hist.Scale, vu c.Hist.Zero, vi c.Hist.Pos.Offset, (Value.slice e j l), vi c.Hist.Neg.Offset, (Value.slice m n o), vi 16])]) (cells := [vB true, vi c.Start, vi c.Time, vi c.Int_, vu c.Re, vu c.Im, vi c.Hist.Scale, vu c.Hist.Zero, vi c.Hist.Pos.Offset, (Value.slice e j l), vi c.Hist.Neg.Offset, (Value.slice m n o), vs c.Name, (Value.slice t C D), vi c.Kind, vi 1, vB c.Mono, vi c.Start, vi c.Time, vi c.Int_, vu c.Re, vu c.Im, vi c.Hist.Scale, vu c.Hist.Zero, vi c.Hist.Pos.Offset, (Value.slice e j l), vi c.Hist.Neg.Offset, (Value.slice m n o), vi 16, vi 0]) (fe_ z) (by kernel_rfl)) z ?_))
         have ex := ap.st I z
         have ey := ex.st F z
         have ez := ey.st G z
         have eA := ez.st H z
         have eB := eA.st p z
         have eC := eB.st q z
         have eD := eC.st r z
         have eE := eD.st W z
         have eF := eE.st J z
         have eG := eF.st K z
         have eH := eG.st ad z
         refine WL.store (v := ag [vB true, vi c.Start, vi c.Time, vi c.Int_, vu c.Re, vu c.Im, vi c.Hist.Scale, vu c.Hist.Zero, vi c.Hist.Pos.Offset, (Value.slice e j l), vi c.Hist.Neg.Offset, (Value.slice m n o), vs c.Name, (Value.slice t C D), vi c.Kind, vi 1, vB c.Mono, vi c.Start, vi c.Time, vi c.Int_, vu c.Re, vu c.Im, vi c.Hist.Scale, vu c.Hist.Zero, vi c.Hist.Pos.Offset, (Value.slice e j l), vi c.Hist.Neg.Offset, (Value.slice m n o), vi 16, vi 0]) (cells' := [vB true, vi c.Start, vi c.Time, vi c.Int_, vu c.Re, vu c.Im, vi c.Hist.Scale, vu c.Hist.Zero, vi c.Hist.Pos.Offset, (Value.slice e j l), vi c.Hist.Neg.Offset, (Value.slice m n o), vs c.Name, (Value.slice t C D), vi c.Kind, vi 1, vB c.Mono, vi c.Start, vi c.Time, vi c.Int_, vu c.Re, vu c.Im, vi c.Hist.Scale, vu c.Hist.Zero, vi c.Hist.Pos.Offset, (Value.slice e j l), vi c.Hist.Neg.Offset, (Value.slice m n o), vi 16, vi 0]) ty48 z z eH z (le_ z) z z ?_
         intro eI av eJ
         refine nl (th (rt (At.thenR ?_)))
         obtain rfl := some1 h
         have an : Stp [12, 13, 14, 15, 16] (Lg.O0 A) w bW eI := (tr_ (su_ aa z) (tr_ (su_ Z z) (tr_ (su_ X z) (tr_ (su_ I z) (tr_ (su_ F z) (tr_ (su_ G z) (tr_ (su_ H z) (tr_ (su_ p z) (tr_ (su_ q z) (tr_ (su_ r z) (tr_ (su_ W z) (tr_ (su_ J z) (tr_ (su_ K z) (tr_ (su_ ad z) (su_ av z)))))))))))))))
         have eK := bf.i W z z
         have eL := eK.i J z z
         have eM := eL.i K z z
         have eN := eM.i ad z z
         have bk := eN.i av z z
         have eO := bg.i W z z
         have eP := eO.i J z z
         have eQ := eP.i K z z
         have eR := eQ.i ad z z
         have bl := eR.i av z z
         have eS := aQ.i W z z
         have eT := eS.i J z z
         have eU := eT.i K z z
         have eV := eU.i ad z z
         have eW := eV.i av z z
         exact At.res (.inl z) z (.cell z (eJ.runAg 0 [vB true, vi c.Start, vi c.Time, vi c.Int_, vu c.Re, vu c.Im, vi c.Hist.Scale, vu c.Hist.Zero, vi c.Hist.Pos.Offset, (Value.slice e j l), vi c.Hist.Neg.Offset, (Value.slice m n o), vs c.Name, (Value.slice t C D), vi c.Kind, vi 1, vB c.Mono, vi c.Start, vi c.Time, vi c.Int_, vu c.Re, vu c.Im, vi c.Hist.Scale, vu c.Hist.Zero, vi c.Hist.Pos.Offset, (Value.slice e j l), vi c.Hist.Neg.Offset, (Value.slice m n o), vi 16, vi 0] ty48 z z z) .nil) ⟨(Value.slice e j l), (Value.slice m n o), (Value.slice t C D), (Value.slice e j l), (Value.slice m n o), z, (se_ an z z), (Sl.outI bk an low0 O0_A), (Sl.outI bl an low0 O0_A), (Sl.outI eW an low0 O0_A), (Sl.outI bk an low0 O0_A), (Sl.outI bl an low0 O0_A)⟩
        ·refine WC.condF' z aR (sk (th (sq (rg (wY (yf fo32_1 z) z ?_)))))
         have eX := az.st W z
         have eY := eX.st J z
         have eZ := eY.st K z
         refine wY (yl ty3 z z (eZ.cell 1 _ z)) z (wY (yf fo37_5 z) z ?_)
         have e0 := ay.st W z
         have e1 := e0.st J z
         have e2 := e1.st K z
         refine WL.store (v := vi a0.Start) (cells' := [vs c.Name, (Value.slice t C D), vi c.Kind, vi 1, vB c.Mono, vi a0.Start, vi c.Time, vi c.Int_, vu c.Re, vu c.Im, vi c.Hist.Scale, vu c.Hist.Zero, vi c.Hist.Pos.Offset, (Value.slice e j l), vi c.Hist.Neg.Offset, (Value.slice m n o), vi c.Flags]) ty3 z z e2 z (le_ z) z z ?_
         intro gO ae e5
         refine nl (th (sq (rg (wY (yf fo32_3 z) z ?_))))
         have bm := ei.st ae z
         refine wY (yl ty3 z z (bm.cell 3 _ z)) z (wY (yf fo37_7 z) z (WL.store (v := vi d.Int_) (cells' := [vs c.Name, (Value.slice t C D), vi c.Kind, vi 1, vB c.Mono, vi a0.Start, vi c.Time, vi d.Int_, vu c.Re, vu c.Im, vi c.Hist.Scale, vu c.Hist.Zero, vi c.Hist.Pos.Offset, (Value.slice e j l), vi c.Hist.Neg.Offset, (Value.slice m n o), vi c.Flags]) ty3 z z e5 z (le_ z) z z ?_))
         intro gP af e6
         refine nl (th (sq (rg (wY (yf fo32_4 z) z ?_))))
         have bn := bm.st af z
         refine wY (yl ty25 z z (bn.cell 4 _ z)) z (wY (yf fo37_8 z) z (WL.store (v := vu d.Re) (cells' := [vs c.Name, (Value.slice t C D), vi c.Kind, vi 1, vB c.Mono, vi a0.Start, vi c.Time, vi d.Int_, vu d.Re, vu c.Im, vi c.Hist.Scale, vu c.Hist.Zero, vi c.Hist.Pos.Offset, (Value.slice e j l), vi c.Hist.Neg.Offset, (Value.slice m n o), vi c.Flags]) ty25 z z e6 z (le_ z) z z ?_))
         intro gQ ah e7
         refine nl (th (sq (rg (wY (yf fo32_5 z) z ?_))))
         have bo := bn.st ah z
         refine wY (yl ty25 z z (bo.cell 5 _ z)) z (wY (yf fo37_9 z) z (WL.store (v := vu d.Im) (cells' := [vs c.Name, (Value.slice t C D), vi c.Kind, vi 1, vB c.Mono, vi a0.Start, vi c.Time, vi d.Int_, vu d.Re, vu d.Im, vi c.Hist.Scale, vu c.Hist.Zero, vi c.Hist.Pos.Offset, (Value.slice e j l), vi c.Hist.Neg.Offset, (Value.slice m n o), vi c.Flags]) ty25 z z e7 z (le_ z) z z ?_))
         intro gR ai e8
         refine nl (th (sq (rg (wY (yf fo32_6 z) z ?_))))
         have bp := bo.st ai z
         refine wY (yL ty30 z z (bp.cells 6 [vi d.Hist.Scale, vu d.Hist.Zero, vi d.Hist.Pos.Offset, (Value.slice L M Q), vi d.Hist.Neg.Offset, (Value.slice T U V)] z) z) z (wY (yf fo37_10 z) z (WL.store (v := ag [vi d.Hist.Scale, vu d.Hist.Zero, vi d.Hist.Pos.Offset, (Value.slice L M Q), vi d.Hist.Neg.Offset, (Value.slice T U V)]) (cells' := [vs c.Name, (Value.slice t C D), vi c.Kind, vi 1, vB c.Mono, vi a0.Start, vi c.Time, vi d.Int_, vu d.Re, vu d.Im, vi d.Hist.Scale, vu d.Hist.Zero, vi d.Hist.Pos.Offset, (Value.slice L M Q), vi d.Hist.Neg.Offset, (Value.slice T U V), vi c.Flags]) ty30 z z e8 z (le_ z) z z ?_))
         intro gU aj e9
         refine nl (th (sq (rg ?_)))
         have fa := bp.st aj z
         refine wY (yL ty32 z z (fa.cells 0 [vB d.Some, vi d.Start, vi d.Time, vi d.Int_, vu d.Re, vu d.Im, vi d.Hist.Scale, vu d.Hist.Zero, vi d.Hist.Pos.Offset, (Value.slice L M Q), vi d.Hist.Neg.Offset, (Value.slice T U V)] z) z) z (wY (yL ty37 z z (e9.cells 0 [vs c.Name, (Value.slice t C D), vi c.Kind, vi 1, vB c.Mono, vi a0.Start, vi c.Time, vi d.Int_, vu d.Re, vu d.Im, vi d.Hist.Scale, vu d.Hist.Zero, vi d.Hist.Pos.Offset, (Value.slice L M Q), vi d.Hist.Neg.Offset, (Value.slice T U V), vi c.Flags] z) z) z (wY (yb (vals := [(0, ag [vB d.Some, vi d.Start, vi d.Time, vi d.Int_, vu d.Re, vu d.Im, vi d.Hist.Scale, vu d.Hist.Zero, vi d.Hist.Pos.Offset, (Value.slice L M Q), vi d.Hist.Neg.Offset, (Value.slice T U V)]), (1, ag [vs c.Name, (Value.slice t C D), vi c.Kind, vi 1, vB c.Mono, vi a0.Start, vi c.Time, vi d.Int_, vu d.Re, vu d.Im, vi d.Hist.Scale, vu d.Hist.Zero, vi d.Hist.Pos.Offset, (Value.slice L M Q), vi d.Hist.Neg.Offset, (Value.slice T U V), vi c.Flags])]) (cells := [vB d.Some, vi d.Start, vi d.Time, vi d.Int_, vu d.Re, vu d.Im, vi d.Hist.Scale, vu d.Hist.Zero, vi d.Hist.Pos.Offset, (Value.slice L M Q), vi d.Hist.Neg.Offset, (Value.slice T U V), vs c.Name, (Value.slice t C D), vi c.Kind, vi 1, vB c.Mono, vi a0.Start, vi c.Time, vi d.Int_, vu d.Re, vu d.Im, vi d.Hist.Scale, vu d.Hist.Zero, vi d.Hist.Pos.Offset, (Value.slice L M Q), vi d.Hist.Neg.Offset, (Value.slice T U V), vi c.Flags, vi 0]) (fe_ z) (by kernel_rfl)) z ?_))
         have fb := ap.st I z
         have fc := fb.st F z
         have fd := fc.st G z
         have fe := fd.st H z
         have ff := fe.st p z
         have fg := ff.st q z
         have fh := fg.st r z
         have fi := fh.st W z
         have fj := fi.st J z
         have fk := fj.st K z
         have fl := fk.st ae z
         have fm := fl.st af z
         have fn := fm.st ah z
         have fo := fn.st ai z
         have fp := fo.st aj z
         refine WL.store (v := ag [vB d.Some, vi d.Start, vi d.Time, vi d.Int_, vu d.Re, vu d.Im, vi d.Hist.Scale, vu d.Hist.Zero, vi d.Hist.Pos.Offset, (Value.slice L M Q), vi d.Hist.Neg.Offset, (Value.slice T U V), vs c.Name, (Value.slice t C D), vi c.Kind, vi 1, vB c.Mono, vi a0.Start, vi c.Time, vi d.Int_, vu d.Re, vu d.Im, vi d.Hist.Scale, vu d.Hist.Zero, vi d.Hist.Pos.Offset, (Value.slice L M Q), vi d.Hist.Neg.Offset, (Value.slice T U V), vi c.Flags, vi 0]) (cells' := [vB d.Some, vi d.Start, vi d.Time, vi d.Int_, vu d.Re, vu d.Im, vi d.Hist.Scale, vu d.Hist.Zero, vi d.Hist.Pos.Offset, (Value.slice L M Q), vi d.Hist.Neg.Offset, (Value.slice T U V), vs c.Name, (Value.slice t C D), vi c.Kind, vi 1, vB c.Mono, vi a0.Start, vi c.Time, vi d.Int_, vu d.Re, vu d.Im, vi d.Hist.Scale, vu d.Hist.Zero, vi d.Hist.Pos.Offset, (Value.slice L M Q), vi d.Hist.Neg.Offset, (Value.slice T U V), vi c.Flags, vi 0]) ty48 z z fp z (le_ z) z z ?_
         intro fq aw fr
         refine nl (th (rt ?_))
         obtain rfl := some1 h
         have ao : Stp [12, 13, 14, 15, 16] (Lg.O0 A) w bW fq := (tr_ (su_ aa z) (tr_ (su_ Z z) (tr_ (su_ X z) (tr_ (su_ I z) (tr_ (su_ F z) (tr_ (su_ G z) (tr_ (su_ H z) (tr_ (su_ p z) (tr_ (su_ q z) (tr_ (su_ r z) (tr_ (su_ W z) (tr_ (su_ J z) (tr_ (su_ K z) (tr_ (su_ ae z) (tr_ (su_ af z) (tr_ (su_ ah z) (tr_ (su_ ai z) (tr_ (su_ aj z) (su_ aw z)))))))))))))))))))
         have fs := bi.i K z z
         have ft := fs.i ae z z
         have fu := ft.i af z z
         have fv := fu.i ah z z
         have fw := fv.i ai z z
         have fx := fw.i aj z z
         have bq := fx.i aw z z
         have fy := bj.i K z z
         have fz := fy.i ae z z
         have fA := fz.i af z z
         have fB := fA.i ah z z
         have fC := fB.i ai z z
         have fD := fC.i aj z z
         have br := fD.i aw z z
         have fF := aQ.i W z z
         have fG := fF.i J z z
         have fH := fG.i K z z
         have fI := fH.i ae z z
         have fJ := fI.i af z z
         have fK := fJ.i ah z z
         have fL := fK.i ai z z
         have fN := fL.i aj z z
         have fO := fN.i aw z z
         exact At.res (.inl z) z (.cell z (fr.runAg 0 [vB d.Some, vi d.Start, vi d.Time, vi d.Int_, vu d.Re, vu d.Im, vi d.Hist.Scale, vu d.Hist.Zero, vi d.Hist.Pos.Offset, (Value.slice L M Q), vi d.Hist.Neg.Offset, (Value.slice T U V), vs c.Name, (Value.slice t C D), vi c.Kind, vi 1, vB c.Mono, vi a0.Start, vi c.Time, vi d.Int_, vu d.Re, vu d.Im, vi d.Hist.Scale, vu d.Hist.Zero, vi d.Hist.Pos.Offset, (Value.slice L M Q), vi d.Hist.Neg.Offset, (Value.slice T U V), vi c.Flags, vi 0] ty48 z z z) .nil) ⟨(Value.slice L M Q), (Value.slice T U V), (Value.slice t C D), (Value.slice L M Q), (Value.slice T U V), z, (se_ ao z z), (Sl.outI bq ao low0 O0_A), (Sl.outI br ao low0 O0_A), (Sl.outI fO ao low0 O0_A), (Sl.outI bq ao low0 O0_A), (Sl.outI br ao low0 O0_A)⟩
theorem c_ref15_Same {A : Nat → Prop} {v0_9 : Value} {v0_11 : Value} {a0 : api_State} {v1_9 : Value} {v1_11 : Value} {a1 : api_State} {w : World} (hs0_9 : Sl Rep.u w A v0_9 a0.Hist.Pos.Counts) (hs0_11 : Sl Rep.u w A v0_11 a0.Hist.Neg.Counts) (hs1_9 : Sl Rep.u w A v1_9 a1.Hist.Pos.Counts) (hs1_11 : Sl Rep.u w A v1_11 a1.Hist.Neg.Counts) {r0 : Bool} (h : ref15_Same a0 a1 = some r0) : Rets Try.prog 22 [ag [vB a0.Some, vi a0.Start, vi a0.Time, vi a0.Int_, vu a0.Re, vu a0.Im, vi a0.Hist.Scale, vu a0.Hist.Zero, vi a0.Hist.Pos.Offset, v0_9, vi a0.Hist.Neg.Offset, v0_11], ag [vB a1.Some, vi a1.Start, vi a1.Time, vi a1.Int_, vu a1.Re, vu a1.Im, vi a1.Hist.Scale, vu a1.Hist.Zero, vi a1.Hist.Pos.Offset, v1_9, vi a1.Hist.Neg.Offset, v1_11]] w (fun v w' => v = vB r0 ∧ Ext w w') := by
 unfold ref15_Same at h
 refine Rets.enter Try.func22 z z ?_
 have F : Sl Rep.u w (imm (Lg.O0 A)) v0_9 a0.Hist.Pos.Counts := (Sl.start hs0_9)
 have G : Sl Rep.u w (imm (Lg.O0 A)) v0_11 a0.Hist.Neg.Counts := (Sl.start hs0_11)
 have ad : Sl Rep.u w (imm (Lg.O0 A)) v1_9 a1.Hist.Pos.Counts := (Sl.start hs1_9)
 have ae : Sl Rep.u w (imm (Lg.O0 A)) v1_11 a1.Hist.Neg.Counts := (Sl.start hs1_11)
 refine (show WC _ _ _ _ [(0, ag [vB a0.Some, vi a0.Start, vi a0.Time, vi a0.Int_, vu a0.Re, vu a0.Im, vi a0.Hist.Scale, vu a0.Hist.Zero, vi a0.Hist.Pos.Offset, v0_9, vi a0.Hist.Neg.Offset, v0_11]), (1, ag [vB a1.Some, vi a1.Start, vi a1.Time, vi a1.Int_, vu a1.Re, vu a1.Im, vi a1.Hist.Scale, vu a1.Hist.Zero, vi a1.Hist.Pos.Offset, v1_9, vi a1.Hist.Neg.Offset, v1_11])] _ from ?_)
 refine sq (rg ?_)
 have af := h
 obtain ⟨H, I, J, rfl⟩ := F.shape
 have h := af
 have ah := h
 obtain ⟨K, L, M, rfl⟩ := G.shape
 have h := ah
 refine WL.box (O := (Lg.O0 A)) 11 [vB a0.Some, vi a0.Start, vi a0.Time, vi a0.Int_, vu a0.Re, vu a0.Im, vi a0.Hist.Scale, vu a0.Hist.Zero, vi a0.Hist.Pos.Offset, (Value.slice H I J), vi a0.Hist.Neg.Offset, (Value.slice K L M)] z z z ?_
 intro d ay aH m ai
 have Q := ad.i m z z
 have aj := h
 obtain ⟨T, U, V, rfl⟩ := Q.shape
 have h := aj
 have W := ae.i m z z
 have ak := h
 obtain ⟨X, Z, aa, rfl⟩ := W.shape
 have h := ak
 refine WL.box (O := ay) 12 [vB a1.Some, vi a1.Start, vi a1.Time, vi a1.Int_, vu a1.Re, vu a1.Im, vi a1.Hist.Scale, vu a1.Hist.Zero, vi a1.Hist.Pos.Offset, (Value.slice T U V), vi a1.Hist.Neg.Offset, (Value.slice X Z aa)] z z z ?_
 intro e ab n c j
 refine wY (ya z) z (nl (th (sq (rg (wY (yf fo32_0 z) z ?_)))))
 have l := ai.st c z
 refine wY (yl ty4 z z (l.cell 0 _ z)) z (wY (yf fo32_0 z) z (wY (yl ty4 z z (j.cell 0 _ z)) z (wY (Y.eqlB z z ty4.u) z (wY (ym z) z ?_))))
 refine WL.cut 6 (σ := Unit) (fun _ w' => n = w') (fun _ => [(2, pt d 0), (3, pt e 0), (16, vB ((decide (a0.Some = a1.Some)) && (decide (a0.Start = a1.Start))))]) ?_ ?_
 ·refine WL.part 10 z (fun o => ?_) (fun o => ?_)
  ·refine ug z z (wY (yf fo32_1 z) z (ug z z (wY (yl ty3 z z (l.cell 1 _ z)) z (ug z z (wY (yf fo32_1 z) z (ug z z (wY (yl ty3 z z (j.cell 1 _ z)) z (ug z z (wY (Y.eql_i z z) z ?_)))))))))
   refine wY (Y.pick (b := true) z z) z (WL.ren (v' := vB ((decide (a0.Some = a1.Some)) && (decide (a0.Start = a1.Start)))) 16 z (congrArg vB (andT o)) ?_)
   exact nl (At.join () z (.cons z (.cons z (.cons z .nil))))
  ·refine WL.gS z z z z (WL.gS z z z z (WL.gS z z z z (WL.gS z z z z (WL.gS z z z z (wY (Y.pick (b := false) z z) z (WL.ren (v' := vB ((decide (a0.Some = a1.Some)) && (decide (a0.Start = a1.Start)))) 16 z (congrArg vB (andF o)) ?_))))))
   exact nl (At.join () z (.cons z (.cons z (.cons z .nil))))
 ·rintro _ _ rfl
  refine (show WL _ _ _ _ _ [(2, pt d 0), (3, pt e 0), (16, vB ((decide (a0.Some = a1.Some)) && (decide (a0.Start = a1.Start))))] _ from ?_)
  refine wY (ym z) z ?_
  refine WL.cut 6 (σ := Unit) (fun _ w' => n = w') (fun _ => [(2, pt d 0), (3, pt e 0), (23, vB (((decide (a0.Some = a1.Some)) && (decide (a0.Start = a1.Start))) && (decide (a0.Time = a1.Time))))]) ?_ ?_
  ·refine WL.part 17 z (fun p => ?_) (fun p => ?_)
   ·refine ug z z (wY (yf fo32_2 z) z (ug z z (wY (yl ty3 z z (l.cell 2 _ z)) z (ug z z (wY (yf fo32_2 z) z (ug z z (wY (yl ty3 z z (j.cell 2 _ z)) z (ug z z (wY (Y.eql_i z z) z ?_)))))))))
    refine wY (Y.pick (b := true) z z) z (WL.ren (v' := vB (((decide (a0.Some = a1.Some)) && (decide (a0.Start = a1.Start))) && (decide (a0.Time = a1.Time)))) 23 z (congrArg vB (andT p)) ?_)
    exact nl (At.join () z (.cons z (.cons z (.cons z .nil))))
   ·refine WL.gS z z z z (WL.gS z z z z (WL.gS z z z z (WL.gS z z z z (WL.gS z z z z (wY (Y.pick (b := false) z z) z (WL.ren (v' := vB (((decide (a0.Some = a1.Some)) && (decide (a0.Start = a1.Start))) && (decide (a0.Time = a1.Time)))) 23 z (congrArg vB (andF p)) ?_))))))
    exact nl (At.join () z (.cons z (.cons z (.cons z .nil))))
  ·rintro _ _ rfl
   refine (show WL _ _ _ _ _ [(2, pt d 0), (3, pt e 0), (23, vB (((decide (a0.Some = a1.Some)) && (decide (a0.Start = a1.Start))) && (decide (a0.Time = a1.Time))))] _ from ?_)
   refine wY (ym z) z ?_
   refine WL.cut 6 (σ := Unit) (fun _ w' => n = w') (fun _ => [(2, pt d 0), (3, pt e 0), (30, vB ((((decide (a0.Some = a1.Some)) && (decide (a0.Start = a1.Start))) && (decide (a0.Time = a1.Time))) && (decide (a0.Int_ = a1.Int_))))]) ?_ ?_
   ·refine WL.part 24 z (fun q => ?_) (fun q => ?_)
    ·refine ug z z (wY (yf fo32_3 z) z (ug z z (wY (yl ty3 z z (l.cell 3 _ z)) z (ug z z (wY (yf fo32_3 z) z (ug z z (wY (yl ty3 z z (j.cell 3 _ z)) z (ug z z (wY (Y.eql_i z z) z ?_)))))))))
     refine wY (Y.pick (b := true) z z) z (WL.ren (v' := vB ((((decide (a0.Some = a1.Some)) && (decide (a0.Start = a1.Start))) && (decide (a0.Time = a1.Time))) && (decide (a0.Int_ = a1.Int_)))) 30 z (congrArg vB (andT q)) ?_)
     exact nl (At.join () z (.cons z (.cons z (.cons z .nil))))
    ·refine WL.gS z z z z (WL.gS z z z z (WL.gS z z z z (WL.gS z z z z (WL.gS z z z z (wY (Y.pick (b := false) z z) z (WL.ren (v' := vB ((((decide (a0.Some = a1.Some)) && (decide (a0.Start = a1.Start))) && (decide (a0.Time = a1.Time))) && (decide (a0.Int_ = a1.Int_)))) 30 z (congrArg vB (andF q)) ?_))))))
     exact nl (At.join () z (.cons z (.cons z (.cons z .nil))))
   ·rintro _ _ rfl
    refine (show WL _ _ _ _ _ [(2, pt d 0), (3, pt e 0), (30, vB ((((decide (a0.Some = a1.Some)) && (decide (a0.Start = a1.Start))) && (decide (a0.Time = a1.Time))) && (decide (a0.Int_ = a1.Int_))))] _ from ?_)
    refine wY (ym z) z ?_
    refine WL.cut 6 (σ := Unit) (fun _ w' => n = w') (fun _ => [(2, pt d 0), (3, pt e 0), (37, vB (((((decide (a0.Some = a1.Some)) && (decide (a0.Start = a1.Start))) && (decide (a0.Time = a1.Time))) && (decide (a0.Int_ = a1.Int_))) && (decide (a0.Re = a1.Re))))]) ?_ ?_
    ·refine WL.part 31 z (fun r => ?_) (fun r => ?_)
     ·refine ug z z (wY (yf fo32_4 z) z (ug z z (wY (yl ty25 z z (l.cell 4 _ z)) z (ug z z (wY (yf fo32_4 z) z (ug z z (wY (yl ty25 z z (j.cell 4 _ z)) z (ug z z (wY (Y.eql_u z z) z ?_)))))))))
      refine wY (Y.pick (b := true) z z) z (WL.ren (v' := vB (((((decide (a0.Some = a1.Some)) && (decide (a0.Start = a1.Start))) && (decide (a0.Time = a1.Time))) && (decide (a0.Int_ = a1.Int_))) && (decide (a0.Re = a1.Re)))) 37 z (congrArg vB (andT r)) ?_)
      exact nl (At.join () z (.cons z (.cons z (.cons z .nil))))
     ·refine WL.gS z z z z (WL.gS z z z z (WL.gS z z z z (WL.gS z z z z (WL.gS z z z z (wY (Y.pick (b := false) z z) z (WL.ren (v' := vB (((((decide (a0.Some = a1.Some)) && (decide (a0.Start = a1.Start))) && (decide (a0.Time = a1.Time))) && (decide (a0.Int_ = a1.Int_))) && (decide (a0.Re = a1.Re)))) 37 z (congrArg vB (andF r)) ?_))))))
      exact nl (At.join () z (.cons z (.cons z (.cons z .nil))))
    ·rintro _ _ rfl
     refine (show WL _ _ _ _ _ [(2, pt d 0), (3, pt e 0), (37, vB (((((decide (a0.Some = a1.Some)) && (decide (a0.Start = a1.Start))) && (decide (a0.Time = a1.Time))) && (decide (a0.Int_ = a1.Int_))) && (decide (a0.Re = a1.Re))))] _ from ?_)
     refine wY (ym z) z ?_
     refine WL.cut 6 (σ := Unit) (fun _ w' => n = w') (fun _ => [(2, pt d 0), (3, pt e 0), (44, vB ((((((decide (a0.Some = a1.Some)) && (decide (a0.Start = a1.Start))) && (decide (a0.Time = a1.Time))) && (decide (a0.Int_ = a1.Int_))) && (decide (a0.Re = a1.Re))) && (decide (a0.Im = a1.Im))))]) ?_ ?_
     ·refine WL.part 38 z (fun t => ?_) (fun t => ?_)
      ·refine ug z z (wY (yf fo32_5 z) z (ug z z (wY (yl ty25 z z (l.cell 5 _ z)) z (ug z z (wY (yf fo32_5 z) z (ug z z (wY (yl ty25 z z (j.cell 5 _ z)) z (ug z z (wY (Y.eql_u z z) z ?_)))))))))
       refine wY (Y.pick (b := true) z z) z (WL.ren (v' := vB ((((((decide (a0.Some = a1.Some)) && (decide (a0.Start = a1.Start))) && (decide (a0.Time = a1.Time))) && (decide (a0.Int_ = a1.Int_))) && (decide (a0.Re = a1.Re))) && (decide (a0.Im = a1.Im)))) 44 z (congrArg vB (andT t)) ?_)
       exact nl (At.join () z (.cons z (.cons z (.cons z .nil))))
      ·refine WL.gS z z z z (WL.gS z z z z (WL.gS z z z z (WL.gS z z z z (WL.gS z z z z (wY (Y.pick (b := false) z z) z (WL.ren (v' := vB ((((((decide (a0.Some = a1.Some)) && (decide (a0.Start = a1.Start))) && (decide (a0.Time = a1.Time))) && (decide (a0.Int_ = a1.Int_))) && (decide (a0.Re = a1.Re))) && (decide (a0.Im = a1.Im)))) 44 z (congrArg vB (andF t)) ?_))))))
       exact nl (At.join () z (.cons z (.cons z (.cons z .nil))))
     ·rintro _ _ rfl
      refine (show WL _ _ _ _ _ [(2, pt d 0), (3, pt e 0), (44, vB ((((((decide (a0.Some = a1.Some)) && (decide (a0.Start = a1.Start))) && (decide (a0.Time = a1.Time))) && (decide (a0.Int_ = a1.Int_))) && (decide (a0.Re = a1.Re))) && (decide (a0.Im = a1.Im))))] _ from ?_)
      refine wY (ym z) z ?_
      obtain ⟨az, h, al⟩ := bnd h
      refine WL.cut 6 (σ := (Bool × Own)) (fun x w' => x.1 = az ∧ Stp [] ab n x.2 w') (fun x => [(51, vB x.1)]) ?_ ?_
      ·rcases cnd h with ⟨C, h⟩ | ⟨C, h⟩
       ·refine WL.ren 45 z (congrArg vB C) (ug z z (wY (yf fo32_6 z) z (ug z z (wY (yL ty30 z z (l.cells 6 [vi a0.Hist.Scale, vu a0.Hist.Zero, vi a0.Hist.Pos.Offset, (Value.slice H I J), vi a0.Hist.Neg.Offset, (Value.slice K L M)] z) z) z (ug z z (wY (yf fo32_6 z) z (ug z z (wY (yL ty30 z z (j.cells 6 [vi a1.Hist.Scale, vu a1.Hist.Zero, vi a1.Hist.Pos.Offset, (Value.slice T U V), vi a1.Hist.Neg.Offset, (Value.slice X Z aa)] z) z) z (ug z z ?_)))))))))
        have am := F.i m z z
        have an := am.i c z z
        have ao := G.i m z z
        have ap := ao.i c z z
        have aq := Q.i c z z
        have ar := W.i c z z
        obtain ⟨aA, au, h⟩ := bnd h
        refine WL.call (vals := [ag [vi a0.Hist.Scale, vu a0.Hist.Zero, vi a0.Hist.Pos.Offset, (Value.slice H I J), vi a0.Hist.Neg.Offset, (Value.slice K L M)], ag [vi a1.Hist.Scale, vu a1.Hist.Zero, vi a1.Hist.Pos.Offset, (Value.slice T U V), vi a1.Hist.Neg.Offset, (Value.slice X Z aa)]]) kok26 z z (c_ref08_Same (A := fun _ => True) (a0 := a0.Hist) (a1 := a1.Hist) (Sl.all an) (Sl.all ap) (Sl.all aq) (Sl.all ar) au) ?_
        rintro aI aJ ⟨rfl, av⟩
        obtain ⟨aC, aD, aE, ac⟩ := adoptE ab (fun k => 1) av
        refine wY (Y.pick (b := true) z z) z ?_
        exact nl (At.join (σ := (Bool × Own)) (aA, aC) ⟨some1 h, (su_ ac z)⟩ (.cons z .nil))
       ·refine WL.ren 45 z (congrArg vB C) (WL.gS z z z z (WL.gS z z z z (WL.gS z z z z (WL.gS z z z z (WL.gS z z z z (wY (Y.pick (b := false) z z) z ?_))))))
        exact nl (At.join (σ := (Bool × Own)) (false, ab) ⟨some1 h, (sr_ _ _ _)⟩ (.cons z .nil))
      ·rintro ⟨aF, aG⟩ aw ⟨rfl, D⟩
       replace h := al
       try dsimp only at h D
       refine (show WL _ _ _ _ _ [(51, vB aF)] _ from ?_)
       refine wY (ya z) z (nl (th (rt ?_)))
       obtain rfl := some1 h
       have ax : Stp [] (Lg.O0 A) w aG aw := (tr_ (su_ m z) (tr_ (su_ c z) (su_ D z)))
       exact At.res (.inl z) z (.tmp z .nil) ⟨z, (se_ ax z z)⟩
theorem c_ref11_Same {A : Nat → Prop} {a0 : List api_Pair} {v0 : Value} {a1 : List api_Pair} {v1 : Value} {w : World} (hs0 : Sl rep_api_Pair w A v0 a0) (hs1 : Sl rep_api_Pair w A v1 a1) {r0 : Bool} (h : ref11_Same a0 a1 = some r0) : Rets Try.prog 50 [v0, v1] w (fun v w' => v = vB r0 ∧ Ext w w') := by
 unfold ref11_Same at h
 refine Rets.enter Try.func50 z z ?_
 have t : Sl rep_api_Pair w (imm (Lg.O0 A)) v0 a0 := (Sl.start hs0)
 have C : Sl rep_api_Pair w (imm (Lg.O0 A)) v1 a1 := (Sl.start hs1)
 refine (show WC _ _ _ _ [(0, v0), (1, v1)] _ from ?_)
 refine sq (rg (wY (ya z) z (nl (th (sq (sq (rg (wY (ym z) z (wY (Y.len ty35 z t) z ?_)))))))))
 refine wY (ym z) z (wY (Y.len ty35 z C) z (wY (Y.neq_i z z) z (nl (th ?_))))
 rcases cnd h with ⟨e, h⟩ | ⟨e, h⟩
 ·refine WC.condT' z e (sq (rg (wY (ya z) z (nl (th (rt (At.thenR ?_)))))))
  obtain rfl := some1 h
  have Q : Stp [] (Lg.O0 A) w (Lg.O0 A) w := (sr_ _ _ _)
  exact At.res (.inl z) z (.tmp z .nil) ⟨z, (se_ Q z z)⟩
 ·refine WC.condF' z e (sk (th (sq (sq (rg (wY (ya z) z (nl (th (WC.block ?_)))))))))
  obtain ⟨L, h, D⟩ := flow1 h
  obtain ⟨M, h⟩ := loop_some h
  refine WC.joinB 0 (σ := Own) (fun x w' => L = .go () ∧ Stp [] (Lg.O0 A) w x w') (fun x => []) ?_ ?_
  ·refine WC.loop (σ := (Int × Own)) (fun x k w' => loopN k (ref11_Same_lp1 a0 a1) x.1 = some L ∧ Stp [] (Lg.O0 A) w x.2 w') (fun x => [(0, v0), (1, v1), (5, vi x.1)]) (0, (Lg.O0 A)) M (.cons z (.cons z (.cons z .nil))) ⟨h, (sr_ _ _ _)⟩ ?_
   rintro ⟨an, p⟩ M ax ⟨h, c⟩
   obtain ⟨ao, aA, rfl, h, j⟩ := rnd1 h
   unfold ref11_Same_lp1 at h
   try dsimp only at h c
   refine (show WC _ _ _ _ [(0, v0), (1, v1), (5, vi an)] _ from ?_)
   refine sq (sq (rg (wY (ym z) z (wY (ym z) z ?_))))
   have F := t.i c z z
   refine wY (Y.len ty35 z F) z (wY (Y.lss_i z z) z (nl (th ?_)))
   rcases cnd h with ⟨l, h⟩ | ⟨l, h⟩
   ·refine WC.condT' z l (sk (th (sq (WC.block (sq (WC.draw 8 p fmix (by kernel_rfl) ?_))))))
    intro T d
    refine WS.y (ym z) z (WS.y (ym z) z ?_)
    obtain ⟨q, U, h⟩ := bnd h
    have V := F.i d z z
    obtain ⟨aC, ar, au, ay, W, X, Z, m, G, aa⟩ := Sl.at2 V U
    obtain ⟨_, _, rfl, rfl, rfl⟩ := G
    replace m : CellsAt _ _ _ [vs q.Key, vs q.Val] := m
    have H := CAt.imm m aa
    refine WS.y (Y.indexAddr ty35 ty107 z W z X Z) z (WS.y (yL ty107 z z H.at_ z) z (WS.y (ym z) z (WS.y (ym z) z ?_)))
    obtain ⟨r, ab, h⟩ := bnd h
    have ac := C.i c z z
    have ad := ac.i d z z
    obtain ⟨aD, av, aw, az, ae, af, ah, n, I, ai⟩ := Sl.at2 ad ab
    obtain ⟨_, _, rfl, rfl, rfl⟩ := I
    replace n : CellsAt _ _ _ [vs r.Key, vs r.Val] := n
    have J := CAt.imm n ai
    refine WS.y (Y.indexAddr ty35 ty107 z ae z af ah) z (WS.y (yL ty107 z z J.at_ z) z (WS.tail (wY (Y.neq_ag agok107 z z (EqF.cons (by decide) (fun w => run_part_plain w (by kernel_rfl) z) (fun w => run_part_plain w (by kernel_rfl) z) (EqV.s (a := q.Key) (b := r.Key) ty9.u) (EqF.cons (by decide) (fun w => run_part_plain w (by kernel_rfl) z) (fun w => run_part_plain w (by kernel_rfl) z) (EqV.s (a := q.Val) (b := r.Val) ty9.u) EqF.nil))) z (nl (th ?_)))))
    rcases cnd h with ⟨o, h⟩ | ⟨o, h⟩
    ·refine WC.condT' z o (sq (rg (wY (ya z) z (nl (th (rt (At.inBlockR (At.thenR (At.loopR ?_)))))))))
     have h := outr1 h j D
     refine At.joinBR (At.inBlockR (At.thenR ?_))
     obtain rfl := some1 h
     have aj : Stp [] (Lg.O0 A) w p T := (tr_ (su_ c z) (su_ d z))
     exact At.res (.inl z) z (.tmp z .nil) ⟨z, (se_ aj z z)⟩
    ·refine WC.condF' z o (sk (At.inBlock (th (rg (wY (ym z) z (wY (Y.add_i z z) z ?_))))))
     obtain ⟨ap, ak, h⟩ := lt1 h
     refine WL.yE (ya z) (congrArg vi ak.symm) z (nl ?_)
     exact At.round (ap, p) ao (Nat.lt_succ_self _) ⟨next1 h j, (tr_ (su_ c z) (su_ d z))⟩ (.cons z (.cons z (.cons z .nil)))
   ·refine WC.condF' z l (WC.exit (At.thenX (At.loopX ?_)))
    exact At.hitB (σ := Own) p ⟨brk1 h j, (su_ c z)⟩ .nil
  ·rintro aq al ⟨rfl, K⟩
   replace h := flowK_go D
   refine (show At _ _ _ [] _ from ?_)
   refine At.inBlockHit (th (sq (rg (wY (ya z) z (nl (th (rt ?_)))))))
   obtain rfl := some1 h
   have am : Stp [] (Lg.O0 A) w aq al := (su_ K z)
   exact At.res (.inl z) z (.tmp z .nil) ⟨z, (se_ am z z)⟩
theorem c_ref11_Sorted {A : Nat → Prop} {a0 : List api_Pair} {v0 : Value} {w : World} (hs0 : Sl rep_api_Pair w A v0 a0) {r0 : List api_Pair} (h : ref11_Sorted a0 = some r0) : Rets Try.prog 51 [v0] w (fun v w' => ∃ (u0 : Value), v = u0 ∧ Ext w w' ∧ RowF rep_api_Pair 107 w w' u0 r0) := by
 unfold ref11_Sorted at h
 refine Rets.enter Try.func51 z z ?_
 have bk : Sl rep_api_Pair w (imm (Lg.O0 A)) v0 a0 := (Sl.start hs0)
 refine (show WC _ _ _ _ [(0, v0)] _ from ?_)
 refine sq (rg (wY (ya z) z (nl (th (sq (rg (wY (ya z) z (nl (th ?_)))))))))
 refine sq (sq (rg (wY (ya z) z (nl (th (WC.block ?_))))))
 obtain ⟨bc, h, bl⟩ := flow1 h
 obtain ⟨bd, h⟩ := loop_some h
 refine WC.joinB 0 (σ := (List api_Pair × Own × Value)) (fun x w' => bc = .go x.1 ∧ Stp [11, 1001] (Lg.O0 A) w x.2.1 w' ∧ OwnSl 1002 rep_api_Pair 107 x.2.1 w' x.2.2 x.1) (fun x => [(3, x.2.2)]) ?_ ?_
 ·refine WC.loop (σ := (List api_Pair × Int × Own × Value)) (fun x k w' => loopN k (ref11_Sorted_lp1 a0) (x.1, x.2.1) = some bc ∧ Stp [11, 1001] (Lg.O0 A) w x.2.2.1 w' ∧ OwnSl 1001 rep_api_Pair 107 x.2.2.1 w' x.2.2.2 x.1) (fun x => [(0, v0), (3, x.2.2.2), (4, vi x.2.1)]) ([], 0, (Lg.O0 A), Value.slice none 0 0) bd (.cons z (.cons z (.cons z .nil))) ⟨h, (sr_ _ _ _), (OwnSl.nil 1001 rep_api_Pair 107)⟩ ?_
  rintro ⟨M, e, Q, d⟩ bd I ⟨h, l, o⟩
  obtain ⟨bG, co, rfl, h, ab⟩ := rnd1 h
  unfold ref11_Sorted_lp1 at h
  try dsimp only at h l o
  refine (show WC _ _ _ _ [(0, v0), (3, d), (4, vi e)] _ from ?_)
  refine sq (sq (rg (wY (ym z) z (wY (ym z) z ?_))))
  have J := bk.i l z z
  refine wY (Y.len ty35 z J) z (wY (Y.lss_i z z) z (nl (th ?_)))
  rcases cnd h with ⟨K, h⟩ | ⟨K, h⟩
  ·refine WC.condT' z K (sk (th (sq (WC.block (sq (rg (wY (ym z) z (wY (Y.len ty35 z o.src.sl) z ?_))))))))
   obtain ⟨bH, bm, h⟩ := lt1 h
   refine WL.yE (ya z) (congrArg vi bm.symm) z (nl (th (sq ?_)))
   obtain ⟨bI, h, bn⟩ := bnd h
   refine WC.join (σ := (Int × Own)) (fun x w' => x.1 = bI ∧ Stp [] Q I x.2 w') (fun x => [(0, v0), (3, d), (4, vi e), (5, vi x.1)]) ?_ ?_
   ·refine WC.block ?_
    obtain ⟨bf, h, bo⟩ := flow1 h
    obtain ⟨bg, h⟩ := loop_some h
    refine WC.joinB 2 (σ := (Int × Own)) (fun x w' => bf = .go x.1 ∧ Stp [] Q I x.2 w') (fun x => [(0, v0), (3, d), (4, vi e), (5, vi x.1)]) ?_ ?_
    ·refine WC.loop (σ := (Int × Own)) (fun x k w' => loopN k (ref11_Sorted_lp2 a0 M e) x.1 = some bf ∧ Stp [] Q I x.2 w') (fun x => [(0, v0), (3, d), (4, vi e), (5, vi x.1)]) (bH, Q) bg (.cons z (.cons z (.cons z (.cons z .nil)))) ⟨h, (sr_ _ _ _)⟩ ?_
     rintro ⟨T, U⟩ bg b6 ⟨h, j⟩
     obtain ⟨bJ, cp, rfl, h, ac⟩ := rnd1 h
     unfold ref11_Sorted_lp2 at h
     try dsimp only at h j
     refine (show WC _ _ _ _ [(0, v0), (3, d), (4, vi e), (5, vi T)] _ from ?_)
     refine sq (sq (WC.drawH [] [0, 1, 2, 3, 4, 5, 6, 7, 8, 9, 10, 11, 12, 13, 14, 15] U 16 fmix z (by kernel_rfl) ?_))
     intro bp m
     refine WD.y 0 z (by kernel_rfl) (fun _ _ _ => ym z) z (WD.y 1 z (by kernel_rfl) (fun _ _ _ => Y.gtr_i z z) z (WD.y 2 z (by kernel_rfl) (fun _ _ _ => ym z) z ?_))
     obtain ⟨bK, h, bq⟩ := bnd h
     refine WD.join (σ := Bool) (f' := 0) [15, 14, 13, 12, 11, 10, 9, 8, 7, 6, 5, 4, 3, 2, 1, 0] (fun x O' w' => x = bK ∧ bp = w' ∧ U = O') (fun x => [(0, v0), (3, d), (4, vi e), (5, vi T), (30, vB x)]) (fun ad => ?_) ?_
     ·rcases cnd h with ⟨p, h⟩ | ⟨p, h⟩
      ·refine WD.ren 17 z (congrArg vB p) (WD.gT 3 z (by kernel_rfl) z z (fun _ _ _ => ym z) z (WD.gT 4 z (by kernel_rfl) z z (fun _ _ _ => ym z) z (WD.gT 5 z (by kernel_rfl) z z (fun _ _ _ => Y.sub_i z z) z ?_)))
       obtain ⟨V, br, h⟩ := bnd h
       have bs := o.st j z z z
       have ae := bs.st m z z z
       obtain ⟨cq, bU, b7, af, bt, bu, L, av⟩ := OwnSl.at ae br
       obtain ⟨_, _, rfl, rfl, rfl⟩ := av
       replace L : CellsAt _ _ _ [vs V.Key, vs V.Val] := L
       have aw := CAt.own ae af L
       refine WD.gT 6 z (by kernel_rfl) z z (fun _ _ _ => Y.indexAddr ty35 ty107 z af z bt bu) z (WD.gT 7 z (by kernel_rfl) z z (fun _ _ _ => yf fo107_0 z) z (WD.gT 8 z (by kernel_rfl) z z (fun b8 cr ax => have ay := aw.st ax z; yl ty9 z z (ay.at_.sub 0 [vs V.Key] z)) z (WD.gT 9 z (by kernel_rfl) z z (fun _ _ _ => ym z) z (WD.gT 10 z (by kernel_rfl) z z (fun _ _ _ => ym z) z ?_))))
       obtain ⟨t, az, h⟩ := bnd h
       have aA := J.i j z z
       have aC := aA.i m z z
       obtain ⟨b9, bL, bM, bW, aD, aE, aF, C, ah, aG⟩ := Sl.at2 aC az
       obtain ⟨_, _, rfl, rfl, rfl⟩ := ah
       replace C : CellsAt _ _ _ [vs t.Key, vs t.Val] := C
       have ai := CAt.imm C aG
       refine WD.gT 11 z (by kernel_rfl) z z (fun _ _ _ => Y.indexAddr ty35 ty107 z aD z aE aF) z (WD.gT 12 z (by kernel_rfl) z z (fun _ _ _ => yf fo107_0 z) z (WD.gT 13 z (by kernel_rfl) z z (fun bX ca aj => have aH := ai.st aj z; yl ty9 z z (aH.at_.sub 0 [vs t.Key] z)) z (WD.gT 14 z (by kernel_rfl) z z (fun _ _ _ => Y.gtr_s z z) z (WD.y 15 z (by kernel_rfl) (fun _ _ _ => Y.pick (b := true) z z) z (WD.ren 17 z (congrArg vB p.symm) ?_)))))
       exact ad (sLess t.Key V.Key) _ _ _ ⟨some1 h, z, z⟩ (.cons z (.cons z (.cons z (.cons z (.cons z .nil)))))
      ·refine WD.ren 17 z (congrArg vB p) (WD.gS 3 z (by kernel_rfl) z z z z (WD.gS 4 z (by kernel_rfl) z z z z (WD.gS 5 z (by kernel_rfl) z z z z (WD.gS 6 z (by kernel_rfl) z z z z (WD.gS 7 z (by kernel_rfl) z z z z (WD.gS 8 z (by kernel_rfl) z z z z (WD.gS 9 z (by kernel_rfl) z z z z (WD.gS 10 z (by kernel_rfl) z z z z (WD.gS 11 z (by kernel_rfl) z z z z ?_)))))))))
       refine WD.gS 12 z (by kernel_rfl) z z z z (WD.gS 13 z (by kernel_rfl) z z z z (WD.gS 14 z (by kernel_rfl) z z z z (WD.y 15 z (by kernel_rfl) (fun _ _ _ => Y.pick (b := false) z z) z (WD.ren 17 z (congrArg vB p.symm) ?_))))
       exact ad false _ _ _ ⟨some1 h, z, z⟩ (.cons z (.cons z (.cons z (.cons z (.cons z .nil)))))
     ·rintro bO _ _ ⟨rfl, rfl, rfl⟩
      replace h := bq
      try dsimp only at h
      refine (show WD _ _ _ _ _ _ _ _ [(0, v0), (3, d), (4, vi e), (5, vi T), (30, vB bO)] _ _ from ?_)
      refine WD.done_ (by kernel_rfl) (th ?_)
      rcases cnd h with ⟨D, h⟩ | ⟨D, h⟩
      ·refine WC.condT' z D (sk (th (WC.block (rg (wY (ym z) z (wY (Y.sub_i z z) z ?_))))))
       obtain ⟨bw, aI, h⟩ := lt1 h
       refine WL.yE (ya z) (congrArg vi aI.symm) z (nl (At.inBlock ?_))
       exact At.round (bw, U) bJ (Nat.lt_succ_self _) ⟨next1 h ac, (tr_ (su_ j z) (su_ m z))⟩ (.cons z (.cons z (.cons z (.cons z .nil))))
      ·refine WC.condF' z D (WC.exit (At.thenX (At.loopX ?_)))
       exact At.hitB (σ := (Int × Own)) (T, U) ⟨brk1 h ac, (tr_ (su_ j z) (su_ m z))⟩ (.cons z (.cons z (.cons z (.cons z .nil))))
    ·rintro ⟨bh, bP⟩ cb ⟨rfl, W⟩
     replace h := flowK_go bo
     try dsimp only at h W
     refine (show At _ _ _ [(0, v0), (3, d), (4, vi e), (5, vi bh)] _ from ?_)
     refine At.inBlockHit ?_
     exact At.join (σ := (Int × Own)) (bh, bP) ⟨some1 h, (su_ W z)⟩ (.cons z (.cons z (.cons z (.cons z .nil))))
   ·rintro ⟨bi, bQ⟩ bx ⟨rfl, n⟩
    replace h := bn
    try dsimp only at h n
    refine (show At _ _ _ [(0, v0), (3, d), (4, vi e), (5, vi bi)] _ from ?_)
    refine th (sq (rg (wY (ya z) z (nl (th (sq (rg (wY (ym z) z (wY (ym z) z ?_)))))))))
    refine wY (ym z) z ?_
    obtain ⟨cc, aJ, h⟩ := bnd h
    have X := o.st n z z z
    refine WL.sliceOwn ty35 ty107 z z z X aJ z ?_
    intro cd aK
    obtain ⟨bY, ak, h⟩ := bnd h
    have aL := OwnSl.nil (O := bQ) (w := bx) 11 rep_api_Pair 107
    refine WL.append (by decide) ty35 ty107 z (by decide) z z aL aK.src ak z ?_
    intro ce bz bZ q aM
    refine wY (ya z) z (nl (th (sq (rg (wY (ym z) z (wY (ym z) z (wY (ym z) z ?_)))))))
    obtain ⟨c, aN, h⟩ := bnd h
    have aO := J.i n z z
    have aP := aO.i q z z
    obtain ⟨cf, bR, bS, b0, aQ, aR, aS, F, al, aT⟩ := Sl.at2 aP aN
    obtain ⟨_, _, rfl, rfl, rfl⟩ := al
    replace F : CellsAt _ _ _ [vs c.Key, vs c.Val] := F
    have am := CAt.imm F aT
    refine wY (Y.indexAddr ty35 ty107 z aQ z aR aS) z (wY (yL ty107 z z am.at_ z) z (WL.buildSlice (O := bz) (R := rep_api_Pair) (vals := [(0, ag [vs c.Key, vs c.Val])]) 12 [vs c.Key, vs c.Val] (xs := [c]) (by decide) ty35 ty107 (by decide) (by decide) (fe_ z) (by kernel_rfl) z ⟨[vs c.Key, vs c.Val], [], z, ⟨[vs c.Key], [vs c.Val], z, z, z⟩, z⟩ z ?_))
    intro cg ch b1 r aU
    obtain ⟨b2, an, h⟩ := bnd h
    have aW := aM.st r z z z
    refine WL.append (by decide) ty35 ty107 z (by decide) z z aW aU.src an z ?_
    intro ci cj b3 G aX
    refine wY (ya z) z (nl (th (rg (wY (ym z) z (wY (ym z) z (wY (ym z) z ?_))))))
    obtain ⟨ck, aY, h⟩ := bnd h
    have aZ := X.st q z z z
    have a1 := aZ.st r z z z
    have a2 := a1.st G z z z
    obtain ⟨cl, H, a3⟩ := OwnSl.giveF rfl flat_api_Pair a2
    obtain ⟨cm, a4, a5⟩ := Sl.slice (ρ := [(46, d), (47, vi bi)]) (x := (.tmp 46)) (lo := (some (.tmp 47))) (hi := none) ty35 ty107 rfl rfl rfl a3 aY
    refine wY (Y.sub (.cons z (.cons z .nil)) (a4 _ _)) z ?_
    obtain ⟨a6, ao, h⟩ := bnd h
    have a7 := aX.st H z z z
    refine WL.append (by decide) ty35 ty107 z (by decide) z z a7 (Sl.src (Sl.mono a5 frs_imm)) ao z ?_
    intro bA cn b4 ap a8
    refine wY (ya z) z (nl (At.inBlock (th (rg (wY (ym z) z (wY (Y.add_i z z) z ?_))))))
    obtain ⟨bB, a9, h⟩ := lt1 h
    refine WL.yE (ya z) (congrArg vi a9.symm) z (nl ?_)
    obtain ⟨bC, aq, ba⟩ := OwnSl.rlb 1001 rfl a8
    exact At.round (a6, bB, bC, bA) bG (Nat.lt_succ_self _) ⟨next1 h ab, (tr_ (su_ l z) (tr_ (su_ n z) (tr_ (su_ q z) (tr_ (su_ r z) (tr_ (su_ G z) (tr_ (su_ H z) (tr_ (su_ ap z) (su_ aq z)))))))), ba⟩ (.cons z (.cons z (.cons z .nil)))
  ·refine WC.condF' z K (WC.exit (At.thenX (At.loopX ?_)))
   obtain ⟨bD, ar, bb⟩ := OwnSl.rlb 1002 rfl o
   exact At.hitB (σ := (List api_Pair × Own × Value)) (M, bD, d) ⟨brk1 h ab, (tr_ (su_ l z) (su_ ar z)), bb⟩ (.cons z .nil)
 ·rintro ⟨b5, bT, bj⟩ bE ⟨rfl, Z, au⟩
  replace h := flowK_go bl
  try dsimp only at h Z au
  refine (show At _ _ _ [(3, bj)] _ from ?_)
  refine At.inBlockHit (th (sq (rg (wY (ym z) z (wY (ya z) z (nl (th (rt ?_))))))))
  obtain rfl := some1 h
  have aa : Stp [11, 1001] (Lg.O0 A) w bT bE := (su_ Z z)
  exact At.res (.inl z) z (.tmp z .nil) ⟨bj, z, (se_ aa z z), (OwnSl.outF au aa low0 z)⟩
theorem c_ref12_Same {A : Nat → Prop} {v0_1 : Value} {v0_13 : Value} {v0_15 : Value} {a0 : api_Point} {v1_1 : Value} {v1_13 : Value} {v1_15 : Value} {a1 : api_Point} {w : World} (hs0_1 : Sl rep_api_Pair w A v0_1 a0.Attrs) (hs0_13 : Sl Rep.u w A v0_13 a0.Hist.Pos.Counts) (hs0_15 : Sl Rep.u w A v0_15 a0.Hist.Neg.Counts) (hs1_1 : Sl rep_api_Pair w A v1_1 a1.Attrs) (hs1_13 : Sl Rep.u w A v1_13 a1.Hist.Pos.Counts) (hs1_15 : Sl Rep.u w A v1_15 a1.Hist.Neg.Counts) {r0 : Bool} (h : ref12_Same a0 a1 = some r0) : Rets Try.prog 23 [ag [vs a0.Name, v0_1, vi a0.Kind, vi a0.Temp, vB a0.Mono, vi a0.Start, vi a0.Time, vi a0.Int_, vu a0.Re, vu a0.Im, vi a0.Hist.Scale, vu a0.Hist.Zero, vi a0.Hist.Pos.Offset, v0_13, vi a0.Hist.Neg.Offset, v0_15, vi a0.Flags], ag [vs a1.Name, v1_1, vi a1.Kind, vi a1.Temp, vB a1.Mono, vi a1.Start, vi a1.Time, vi a1.Int_, vu a1.Re, vu a1.Im, vi a1.Hist.Scale, vu a1.Hist.Zero, vi a1.Hist.Pos.Offset, v1_13, vi a1.Hist.Neg.Offset, v1_15, vi a1.Flags]] w (fun v w' => v = vB r0 ∧ Ext w w') := by
 unfold ref12_Same at h
 refine Rets.enter Try.func23 z z ?_
 have ad : Sl rep_api_Pair w (imm (Lg.O0 A)) v0_1 a0.Attrs := (Sl.start hs0_1)
 have ae : Sl Rep.u w (imm (Lg.O0 A)) v0_13 a0.Hist.Pos.Counts := (Sl.start hs0_13)
 have af : Sl Rep.u w (imm (Lg.O0 A)) v0_15 a0.Hist.Neg.Counts := (Sl.start hs0_15)
 have bA : Sl rep_api_Pair w (imm (Lg.O0 A)) v1_1 a1.Attrs := (Sl.start hs1_1)
 have bB : Sl Rep.u w (imm (Lg.O0 A)) v1_13 a1.Hist.Pos.Counts := (Sl.start hs1_13)
 have bC : Sl Rep.u w (imm (Lg.O0 A)) v1_15 a1.Hist.Neg.Counts := (Sl.start hs1_15)
 refine (show WC _ _ _ _ [(0, ag [vs a0.Name, v0_1, vi a0.Kind, vi a0.Temp, vB a0.Mono, vi a0.Start, vi a0.Time, vi a0.Int_, vu a0.Re, vu a0.Im, vi a0.Hist.Scale, vu a0.Hist.Zero, vi a0.Hist.Pos.Offset, v0_13, vi a0.Hist.Neg.Offset, v0_15, vi a0.Flags]), (1, ag [vs a1.Name, v1_1, vi a1.Kind, vi a1.Temp, vB a1.Mono, vi a1.Start, vi a1.Time, vi a1.Int_, vu a1.Re, vu a1.Im, vi a1.Hist.Scale, vu a1.Hist.Zero, vi a1.Hist.Pos.Offset, v1_13, vi a1.Hist.Neg.Offset, v1_15, vi a1.Flags])] _ from ?_)
 refine sq (rg ?_)
 have bD := h
 obtain ⟨bs, bt, bu, rfl⟩ := ad.shape
 have h := bD
 have bE := h
 obtain ⟨ah, ai, aj, rfl⟩ := ae.shape
 have h := bE
 have bF := h
 obtain ⟨ak, al, am, rfl⟩ := af.shape
 have h := bF
 refine WL.box (O := (Lg.O0 A)) 11 [vs a0.Name, (Value.slice bs bt bu), vi a0.Kind, vi a0.Temp, vB a0.Mono, vi a0.Start, vi a0.Time, vi a0.Int_, vu a0.Re, vu a0.Im, vi a0.Hist.Scale, vu a0.Hist.Zero, vi a0.Hist.Pos.Offset, (Value.slice ah ai aj), vi a0.Hist.Neg.Offset, (Value.slice ak al am), vi a0.Flags] z z z ?_
 intro m cc ck o X
 have an := bA.i o z z
 have bG := h
 obtain ⟨bw, bx, bz, rfl⟩ := an.shape
 have h := bG
 have ao := bB.i o z z
 have bH := h
 obtain ⟨ap, aq, ar, rfl⟩ := ao.shape
 have h := bH
 have au := bC.i o z z
 have bI := h
 obtain ⟨av, aw, ax, rfl⟩ := au.shape
 have h := bI
 refine WL.box (O := cc) 12 [vs a1.Name, (Value.slice bw bx bz), vi a1.Kind, vi a1.Temp, vB a1.Mono, vi a1.Start, vi a1.Time, vi a1.Int_, vu a1.Re, vu a1.Im, vi a1.Hist.Scale, vu a1.Hist.Zero, vi a1.Hist.Pos.Offset, (Value.slice ap aq ar), vi a1.Hist.Neg.Offset, (Value.slice av aw ax), vi a1.Flags] z z z ?_
 intro n aa cl d Z
 refine wY (ya z) z (nl (th (sq (sq (WC.drawH [] [0, 1, 2, 3, 4, 5, 6, 7, 8, 9, 10, 11, 12, 13, 14] aa 15 fmix z (by kernel_rfl) ?_)))))
 intro bJ c
 refine WD.y 0 z (by kernel_rfl) (fun _ _ _ => yf fo37_0 z) z (WD.y 1 z (by kernel_rfl) (fun cm cq aE => have bK := X.st d z; have bL := bK.st c z; have bM := bL.st aE z; yl ty9 z z (bM.cell 0 _ z)) z (WD.y 2 z (by kernel_rfl) (fun _ _ _ => yf fo37_0 z) z (WD.y 3 z (by kernel_rfl) (fun cn cr aF => have bO := Z.st c z; have bP := bO.st aF z; yl ty9 z z (bP.cell 0 _ z)) z (WD.y 4 z (by kernel_rfl) (fun _ _ _ => Y.neq_s z z) z (WD.y 5 z (by kernel_rfl) (fun _ _ _ => ym z) z ?_)))))
 obtain ⟨cd, h, bQ⟩ := bnd h
 refine WD.join (σ := (Bool × Own)) (f' := 0) [14, 13, 12, 11, 8, 10, 9, 7, 6, 5, 4, 3, 2, 1, 0] (fun x O' w' => x.1 = cd ∧ Stp [] aa bJ x.2 w' ∧ x.2 = O') (fun x => [(2, pt m 0), (3, pt n 0), (19, vB x.1)]) (fun ay => ?_) ?_
 ·rcases cnd h with ⟨q, h⟩ | ⟨q, h⟩
  ·refine WD.ren 10 z (congrArg vB q) (WD.gS 6 z (by kernel_rfl) z z z z (WD.gS 7 z (by kernel_rfl) z z z z (WD.gS 9 z (by kernel_rfl) z z z z (WD.gS 10 z (by kernel_rfl) z z z z (WD.heavy 8 z (by kernel_rfl) (WL.gS z z z z (nl (At.dq (sr_ _ _ _) (WD.heavy 11 z (by kernel_rfl) ?_)))))))))
   refine WL.gS z z z z (nl (At.dq (sr_ _ _ _) (WD.heavy 12 z (by kernel_rfl) (WL.gS z z z z (nl (At.dq (sr_ _ _ _) (WD.gS 13 z (by kernel_rfl) z z z z (WD.y 14 z (by kernel_rfl) (fun _ _ _ => Y.pick (b := true) z z) z (WD.ren 10 z (congrArg vB q.symm) ?_)))))))))
   exact ay (true, aa) _ _ _ ⟨some1 h, (sr_ _ _ _), z⟩ (.cons z (.cons z (.cons z .nil)))
  ·refine WD.ren 10 z (congrArg vB q) (WD.gT 6 z (by kernel_rfl) z z (fun _ _ _ => yf fo37_1 z) z (WD.gT 7 z (by kernel_rfl) z z (fun co cs aG => have bR := X.st d z; have bS := bR.st c z; have bT := bS.st aG z; yl ty35 z z (bT.cell 1 _ z)) z (WD.gT 9 z (by kernel_rfl) z z (fun _ _ _ => yf fo37_1 z) z (WD.gT 10 z (by kernel_rfl) z z (fun cf cp az => have aH := Z.st c z; have aI := aH.st az z; yl ty35 z z (aI.cell 1 _ z)) z (WD.heavy 8 z (by kernel_rfl) (ug z z ?_))))))
   have aJ := ad.i o z z
   have aK := aJ.i d z z
   have aL := aK.i c z z
   obtain ⟨bU, aM, h⟩ := bnd h
   refine WL.call (vals := [(Value.slice bs bt bu)]) kok51 z z (c_ref11_Sorted (A := fun _ => True) (Sl.all aL) aM) ?_
   rintro C aN ⟨_, rfl, aO, bW⟩
   obtain ⟨aA, b6, ab, r⟩ := adoptE aa (fun k => if ob C = some k then 13 else 1) aO
   have aP : OwnSl 13 rep_api_Pair 107 aA aN C bU := RowF.adopt 13 flat_api_Pair bW ab (fun k hk => if_pos hk)
   refine nl (At.dq (su_ r z) (WD.heavy 11 z (by kernel_rfl) (ug z z ?_)))
   have aQ := an.i d z z
   have aR := aQ.i c z z
   have aS := aR.i r z z
   obtain ⟨bX, aT, h⟩ := bnd h
   refine WL.call (vals := [(Value.slice bw bx bz)]) kok51 z z (c_ref11_Sorted (A := fun _ => True) (Sl.all aS) aT) ?_
   rintro D aU ⟨_, rfl, aW, bY⟩
   obtain ⟨aC, b7, ac, t⟩ := adoptE aA (fun k => if ob D = some k then 14 else 1) aW
   have aX : OwnSl 14 rep_api_Pair 107 aC aU D bX := RowF.adopt 14 flat_api_Pair bY ac (fun k hk => if_pos hk)
   refine nl (At.dq (su_ t z) (WD.heavy 12 z (by kernel_rfl) (ug z z ?_)))
   have aY := aP.st t z z z
   obtain ⟨bZ, aZ, h⟩ := bnd h
   refine WL.call (vals := [C, D]) kok50 z z (c_ref11_Same (A := fun _ => True) (aY.src.sl) (aX.src.sl) aZ) ?_
   rintro cg ch ⟨rfl, a2⟩
   obtain ⟨b0, b8, b9, U⟩ := adoptE aC (fun k => 1) a2
   refine nl (At.dq (su_ U z) (WD.gT 13 z (by kernel_rfl) z z (fun _ _ _ => Y.not z) z (WD.y 14 z (by kernel_rfl) (fun _ _ _ => Y.pick (b := false) z z) z (WD.ren 10 z (congrArg vB q.symm) ?_))))
   exact ay ((!bZ), b0) _ _ _ ⟨some1 h, (tr_ (su_ r z) (tr_ (su_ t z) (su_ U z))), z⟩ (.cons z (.cons z (.cons z .nil)))
 ·rintro ⟨ce, V⟩ _ p ⟨rfl, e, rfl⟩
  replace h := bQ
  try dsimp only at h e
  refine (show WD _ _ _ _ _ _ _ _ [(2, pt m 0), (3, pt n 0), (19, vB ce)] _ _ from ?_)
  refine WD.done_ (by kernel_rfl) (th ?_)
  rcases cnd h with ⟨F, h⟩ | ⟨F, h⟩
  ·refine WC.condT' z F (sq (rg (wY (ya z) z (nl (th (rt (At.thenR ?_)))))))
   obtain rfl := some1 h
   have a3 : Stp [] (Lg.O0 A) w V p := (tr_ (su_ o z) (tr_ (su_ d z) (tr_ (su_ c z) (su_ e z))))
   exact At.res (.inl z) z (.tmp z .nil) ⟨z, (se_ a3 z z)⟩
  ·refine WC.condF' z F (sk (th (sq (sq (rg (wY (yf fo37_2 z) z ?_))))))
   have a4 := X.st d z
   have a5 := a4.st c z
   have j := a5.st e z
   refine wY (yl ty3 z z (j.cell 2 _ z)) z (wY (yf fo37_2 z) z ?_)
   have a6 := Z.st c z
   have l := a6.st e z
   refine wY (yl ty3 z z (l.cell 2 _ z)) z (wY (Y.neq_i z z) z (wY (ym z) z ?_))
   refine WL.cut 6 (σ := Unit) (fun _ w' => p = w') (fun _ => [(2, pt m 0), (3, pt n 0), (31, vB ((!decide (a0.Kind = a1.Kind)) || (!decide (a0.Temp = a1.Temp))))]) ?_ ?_
   ·refine WL.part 25 z (fun G => ?_) (fun G => ?_)
    ·refine WL.gS z z z z (WL.gS z z z z (WL.gS z z z z (WL.gS z z z z (WL.gS z z z z (wY (Y.pick (b := true) z z) z (WL.ren (v' := vB ((!decide (a0.Kind = a1.Kind)) || (!decide (a0.Temp = a1.Temp)))) 31 z (congrArg vB (orT G)) ?_))))))
     exact nl (At.join () z (.cons z (.cons z (.cons z .nil))))
    ·refine ug z z (wY (yf fo37_3 z) z (ug z z (wY (yl ty3 z z (j.cell 3 _ z)) z (ug z z (wY (yf fo37_3 z) z (ug z z (wY (yl ty3 z z (l.cell 3 _ z)) z (ug z z (wY (Y.neq_i z z) z ?_)))))))))
     refine wY (Y.pick (b := false) z z) z (WL.ren (v' := vB ((!decide (a0.Kind = a1.Kind)) || (!decide (a0.Temp = a1.Temp)))) 31 z (congrArg vB (orF G)) ?_)
     exact nl (At.join () z (.cons z (.cons z (.cons z .nil))))
   ·rintro _ _ rfl
    refine (show WL _ _ _ _ _ [(2, pt m 0), (3, pt n 0), (31, vB ((!decide (a0.Kind = a1.Kind)) || (!decide (a0.Temp = a1.Temp))))] _ from ?_)
    refine wY (ym z) z ?_
    refine WL.cut 6 (σ := Unit) (fun _ w' => p = w') (fun _ => [(2, pt m 0), (3, pt n 0), (38, vB (((!decide (a0.Kind = a1.Kind)) || (!decide (a0.Temp = a1.Temp))) || (!decide (a0.Mono = a1.Mono))))]) ?_ ?_
    ·refine WL.part 32 z (fun H => ?_) (fun H => ?_)
     ·refine WL.gS z z z z (WL.gS z z z z (WL.gS z z z z (WL.gS z z z z (WL.gS z z z z (wY (Y.pick (b := true) z z) z (WL.ren (v' := vB (((!decide (a0.Kind = a1.Kind)) || (!decide (a0.Temp = a1.Temp))) || (!decide (a0.Mono = a1.Mono)))) 38 z (congrArg vB (orT H)) ?_))))))
      exact nl (At.join () z (.cons z (.cons z (.cons z .nil))))
     ·refine ug z z (wY (yf fo37_4 z) z (ug z z (wY (yl ty4 z z (j.cell 4 _ z)) z (ug z z (wY (yf fo37_4 z) z (ug z z (wY (yl ty4 z z (l.cell 4 _ z)) z (ug z z (wY (Y.neqB z z ty4.u) z ?_)))))))))
      refine wY (Y.pick (b := false) z z) z (WL.ren (v' := vB (((!decide (a0.Kind = a1.Kind)) || (!decide (a0.Temp = a1.Temp))) || (!decide (a0.Mono = a1.Mono)))) 38 z (congrArg vB (orF H)) ?_)
      exact nl (At.join () z (.cons z (.cons z (.cons z .nil))))
    ·rintro _ _ rfl
     refine (show WL _ _ _ _ _ [(2, pt m 0), (3, pt n 0), (38, vB (((!decide (a0.Kind = a1.Kind)) || (!decide (a0.Temp = a1.Temp))) || (!decide (a0.Mono = a1.Mono))))] _ from ?_)
     refine wY (ym z) z ?_
     refine WL.cut 6 (σ := Unit) (fun _ w' => p = w') (fun _ => [(2, pt m 0), (3, pt n 0), (45, vB ((((!decide (a0.Kind = a1.Kind)) || (!decide (a0.Temp = a1.Temp))) || (!decide (a0.Mono = a1.Mono))) || (!decide (a0.Start = a1.Start))))]) ?_ ?_
     ·refine WL.part 39 z (fun I => ?_) (fun I => ?_)
      ·refine WL.gS z z z z (WL.gS z z z z (WL.gS z z z z (WL.gS z z z z (WL.gS z z z z (wY (Y.pick (b := true) z z) z (WL.ren (v' := vB ((((!decide (a0.Kind = a1.Kind)) || (!decide (a0.Temp = a1.Temp))) || (!decide (a0.Mono = a1.Mono))) || (!decide (a0.Start = a1.Start)))) 45 z (congrArg vB (orT I)) ?_))))))
       exact nl (At.join () z (.cons z (.cons z (.cons z .nil))))
      ·refine ug z z (wY (yf fo37_5 z) z (ug z z (wY (yl ty3 z z (j.cell 5 _ z)) z (ug z z (wY (yf fo37_5 z) z (ug z z (wY (yl ty3 z z (l.cell 5 _ z)) z (ug z z (wY (Y.neq_i z z) z ?_)))))))))
       refine wY (Y.pick (b := false) z z) z (WL.ren (v' := vB ((((!decide (a0.Kind = a1.Kind)) || (!decide (a0.Temp = a1.Temp))) || (!decide (a0.Mono = a1.Mono))) || (!decide (a0.Start = a1.Start)))) 45 z (congrArg vB (orF I)) ?_)
       exact nl (At.join () z (.cons z (.cons z (.cons z .nil))))
     ·rintro _ _ rfl
      refine (show WL _ _ _ _ _ [(2, pt m 0), (3, pt n 0), (45, vB ((((!decide (a0.Kind = a1.Kind)) || (!decide (a0.Temp = a1.Temp))) || (!decide (a0.Mono = a1.Mono))) || (!decide (a0.Start = a1.Start))))] _ from ?_)
      refine wY (ym z) z ?_
      refine WL.cut 6 (σ := Unit) (fun _ w' => p = w') (fun _ => [(2, pt m 0), (3, pt n 0), (52, vB (((((!decide (a0.Kind = a1.Kind)) || (!decide (a0.Temp = a1.Temp))) || (!decide (a0.Mono = a1.Mono))) || (!decide (a0.Start = a1.Start))) || (!decide (a0.Time = a1.Time))))]) ?_ ?_
      ·refine WL.part 46 z (fun J => ?_) (fun J => ?_)
       ·refine WL.gS z z z z (WL.gS z z z z (WL.gS z z z z (WL.gS z z z z (WL.gS z z z z (wY (Y.pick (b := true) z z) z (WL.ren (v' := vB (((((!decide (a0.Kind = a1.Kind)) || (!decide (a0.Temp = a1.Temp))) || (!decide (a0.Mono = a1.Mono))) || (!decide (a0.Start = a1.Start))) || (!decide (a0.Time = a1.Time)))) 52 z (congrArg vB (orT J)) ?_))))))
        exact nl (At.join () z (.cons z (.cons z (.cons z .nil))))
       ·refine ug z z (wY (yf fo37_6 z) z (ug z z (wY (yl ty3 z z (j.cell 6 _ z)) z (ug z z (wY (yf fo37_6 z) z (ug z z (wY (yl ty3 z z (l.cell 6 _ z)) z (ug z z (wY (Y.neq_i z z) z ?_)))))))))
        refine wY (Y.pick (b := false) z z) z (WL.ren (v' := vB (((((!decide (a0.Kind = a1.Kind)) || (!decide (a0.Temp = a1.Temp))) || (!decide (a0.Mono = a1.Mono))) || (!decide (a0.Start = a1.Start))) || (!decide (a0.Time = a1.Time)))) 52 z (congrArg vB (orF J)) ?_)
        exact nl (At.join () z (.cons z (.cons z (.cons z .nil))))
      ·rintro _ _ rfl
       refine (show WL _ _ _ _ _ [(2, pt m 0), (3, pt n 0), (52, vB (((((!decide (a0.Kind = a1.Kind)) || (!decide (a0.Temp = a1.Temp))) || (!decide (a0.Mono = a1.Mono))) || (!decide (a0.Start = a1.Start))) || (!decide (a0.Time = a1.Time))))] _ from ?_)
       refine nl (th ?_)
       rcases cnd h with ⟨K, h⟩ | ⟨K, h⟩
       ·refine WC.condT' z K (sq (rg (wY (ya z) z (nl (th (rt (At.thenR ?_)))))))
        obtain rfl := some1 h
        have a7 : Stp [] (Lg.O0 A) w V p := (tr_ (su_ o z) (tr_ (su_ d z) (tr_ (su_ c z) (su_ e z))))
        exact At.res (.inl z) z (.tmp z .nil) ⟨z, (se_ a7 z z)⟩
       ·refine WC.condF' z K (sk (th (sq (rg (wY (yf fo37_7 z) z (wY (yl ty3 z z (j.cell 7 _ z)) z (wY (yf fo37_7 z) z (wY (yl ty3 z z (l.cell 7 _ z)) z (wY (Y.eql_i z z) z ?_)))))))))
        refine wY (ym z) z ?_
        refine WL.cut 6 (σ := Unit) (fun _ w' => p = w') (fun _ => [(2, pt m 0), (3, pt n 0), (64, vB ((decide (a0.Int_ = a1.Int_)) && (decide (a0.Re = a1.Re))))]) ?_ ?_
        ·refine WL.part 58 z (fun L => ?_) (fun L => ?_)
         ·refine ug z z (wY (yf fo37_8 z) z (ug z z (wY (yl ty25 z z (j.cell 8 _ z)) z (ug z z (wY (yf fo37_8 z) z (ug z z (wY (yl ty25 z z (l.cell 8 _ z)) z (ug z z (wY (Y.eql_u z z) z ?_)))))))))
          refine wY (Y.pick (b := true) z z) z (WL.ren (v' := vB ((decide (a0.Int_ = a1.Int_)) && (decide (a0.Re = a1.Re)))) 64 z (congrArg vB (andT L)) ?_)
          exact nl (At.join () z (.cons z (.cons z (.cons z .nil))))
         ·refine WL.gS z z z z (WL.gS z z z z (WL.gS z z z z (WL.gS z z z z (WL.gS z z z z (wY (Y.pick (b := false) z z) z (WL.ren (v' := vB ((decide (a0.Int_ = a1.Int_)) && (decide (a0.Re = a1.Re)))) 64 z (congrArg vB (andF L)) ?_))))))
          exact nl (At.join () z (.cons z (.cons z (.cons z .nil))))
        ·rintro _ _ rfl
         refine (show WL _ _ _ _ _ [(2, pt m 0), (3, pt n 0), (64, vB ((decide (a0.Int_ = a1.Int_)) && (decide (a0.Re = a1.Re))))] _ from ?_)
         refine wY (ym z) z ?_
         refine WL.cut 6 (σ := Unit) (fun _ w' => p = w') (fun _ => [(2, pt m 0), (3, pt n 0), (71, vB (((decide (a0.Int_ = a1.Int_)) && (decide (a0.Re = a1.Re))) && (decide (a0.Im = a1.Im))))]) ?_ ?_
         ·refine WL.part 65 z (fun M => ?_) (fun M => ?_)
          ·refine ug z z (wY (yf fo37_9 z) z (ug z z (wY (yl ty25 z z (j.cell 9 _ z)) z (ug z z (wY (yf fo37_9 z) z (ug z z (wY (yl ty25 z z (l.cell 9 _ z)) z (ug z z (wY (Y.eql_u z z) z ?_)))))))))
           refine wY (Y.pick (b := true) z z) z (WL.ren (v' := vB (((decide (a0.Int_ = a1.Int_)) && (decide (a0.Re = a1.Re))) && (decide (a0.Im = a1.Im)))) 71 z (congrArg vB (andT M)) ?_)
           exact nl (At.join () z (.cons z (.cons z (.cons z .nil))))
          ·refine WL.gS z z z z (WL.gS z z z z (WL.gS z z z z (WL.gS z z z z (WL.gS z z z z (wY (Y.pick (b := false) z z) z (WL.ren (v' := vB (((decide (a0.Int_ = a1.Int_)) && (decide (a0.Re = a1.Re))) && (decide (a0.Im = a1.Im)))) 71 z (congrArg vB (andF M)) ?_))))))
           exact nl (At.join () z (.cons z (.cons z (.cons z .nil))))
         ·rintro _ _ rfl
          refine (show WL _ _ _ _ _ [(2, pt m 0), (3, pt n 0), (71, vB (((decide (a0.Int_ = a1.Int_)) && (decide (a0.Re = a1.Re))) && (decide (a0.Im = a1.Im))))] _ from ?_)
          refine wY (ym z) z ?_
          refine WL.cut 6 (σ := Unit) (fun _ w' => p = w') (fun _ => [(2, pt m 0), (3, pt n 0), (78, vB ((((decide (a0.Int_ = a1.Int_)) && (decide (a0.Re = a1.Re))) && (decide (a0.Im = a1.Im))) && (decide (a0.Flags = a1.Flags))))]) ?_ ?_
          ·refine WL.part 72 z (fun Q => ?_) (fun Q => ?_)
           ·refine ug z z (wY (yf fo37_11 z) z (ug z z (wY (yl ty3 z z (j.cell 16 _ z)) z (ug z z (wY (yf fo37_11 z) z (ug z z (wY (yl ty3 z z (l.cell 16 _ z)) z (ug z z (wY (Y.eql_i z z) z ?_)))))))))
            refine wY (Y.pick (b := true) z z) z (WL.ren (v' := vB ((((decide (a0.Int_ = a1.Int_)) && (decide (a0.Re = a1.Re))) && (decide (a0.Im = a1.Im))) && (decide (a0.Flags = a1.Flags)))) 78 z (congrArg vB (andT Q)) ?_)
            exact nl (At.join () z (.cons z (.cons z (.cons z .nil))))
           ·refine WL.gS z z z z (WL.gS z z z z (WL.gS z z z z (WL.gS z z z z (WL.gS z z z z (wY (Y.pick (b := false) z z) z (WL.ren (v' := vB ((((decide (a0.Int_ = a1.Int_)) && (decide (a0.Re = a1.Re))) && (decide (a0.Im = a1.Im))) && (decide (a0.Flags = a1.Flags)))) 78 z (congrArg vB (andF Q)) ?_))))))
            exact nl (At.join () z (.cons z (.cons z (.cons z .nil))))
          ·rintro _ _ rfl
           refine (show WL _ _ _ _ _ [(2, pt m 0), (3, pt n 0), (78, vB ((((decide (a0.Int_ = a1.Int_)) && (decide (a0.Re = a1.Re))) && (decide (a0.Im = a1.Im))) && (decide (a0.Flags = a1.Flags))))] _ from ?_)
           refine wY (ym z) z ?_
           obtain ⟨b1, h, a8⟩ := bnd h
           refine WL.cut 6 (σ := (Bool × Own)) (fun x w' => x.1 = b1 ∧ Stp [] V p x.2 w') (fun x => [(85, vB x.1)]) ?_ ?_
           ·rcases cnd h with ⟨T, h⟩ | ⟨T, h⟩
            ·refine WL.ren 79 z (congrArg vB T) (ug z z (wY (yf fo37_10 z) z (ug z z (wY (yL ty30 z z (j.cells 10 [vi a0.Hist.Scale, vu a0.Hist.Zero, vi a0.Hist.Pos.Offset, (Value.slice ah ai aj), vi a0.Hist.Neg.Offset, (Value.slice ak al am)] z) z) z (ug z z (wY (yf fo37_10 z) z (ug z z (wY (yL ty30 z z (l.cells 10 [vi a1.Hist.Scale, vu a1.Hist.Zero, vi a1.Hist.Pos.Offset, (Value.slice ap aq ar), vi a1.Hist.Neg.Offset, (Value.slice av aw ax)] z) z) z (ug z z ?_)))))))))
             have a9 := ae.i o z z
             have ba := a9.i d z z
             have bb := ba.i c z z
             have bc := bb.i e z z
             have bd := af.i o z z
             have bf := bd.i d z z
             have bg := bf.i c z z
             have bh := bg.i e z z
             have bi := ao.i d z z
             have bj := bi.i c z z
             have bk := bj.i e z z
             have bl := au.i d z z
             have bm := bl.i c z z
             have bn := bm.i e z z
             obtain ⟨b2, bo, h⟩ := bnd h
             refine WL.call (vals := [ag [vi a0.Hist.Scale, vu a0.Hist.Zero, vi a0.Hist.Pos.Offset, (Value.slice ah ai aj), vi a0.Hist.Neg.Offset, (Value.slice ak al am)], ag [vi a1.Hist.Scale, vu a1.Hist.Zero, vi a1.Hist.Pos.Offset, (Value.slice ap aq ar), vi a1.Hist.Neg.Offset, (Value.slice av aw ax)]]) kok26 z z (c_ref08_Same (A := fun _ => True) (a0 := a0.Hist) (a1 := a1.Hist) (Sl.all bc) (Sl.all bh) (Sl.all bk) (Sl.all bn) bo) ?_
             rintro ci cj ⟨rfl, bp⟩
             obtain ⟨b3, ca, cb, aD⟩ := adoptE V (fun k => 1) bp
             refine wY (Y.pick (b := true) z z) z ?_
             exact nl (At.join (σ := (Bool × Own)) (b2, b3) ⟨some1 h, (su_ aD z)⟩ (.cons z .nil))
            ·refine WL.ren 79 z (congrArg vB T) (WL.gS z z z z (WL.gS z z z z (WL.gS z z z z (WL.gS z z z z (WL.gS z z z z (wY (Y.pick (b := false) z z) z ?_))))))
             exact nl (At.join (σ := (Bool × Own)) (false, V) ⟨some1 h, (sr_ _ _ _)⟩ (.cons z .nil))
           ·rintro ⟨b4, b5⟩ bq ⟨rfl, W⟩
            replace h := a8
            try dsimp only at h W
            refine (show WL _ _ _ _ _ [(85, vB b4)] _ from ?_)
            refine wY (ya z) z (nl (th (rt ?_)))
            obtain rfl := some1 h
            have br : Stp [] (Lg.O0 A) w b5 bq := (tr_ (su_ o z) (tr_ (su_ d z) (tr_ (su_ c z) (tr_ (su_ e z) (su_ W z)))))
            exact At.res (.inl z) z (.tmp z .nil) ⟨z, (se_ br z z)⟩
theorem c_law16_TocumNext {A : Nat → Prop} {v0_9 : Value} {v0_11 : Value} {a0 : api_State} {v1_1 : Value} {v1_13 : Value} {v1_15 : Value} {a1 : api_Point} {a2 : Int} {w : World} (hs0_9 : Sl Rep.u w A v0_9 a0.Hist.Pos.Counts) (hs0_11 : Sl Rep.u w A v0_11 a0.Hist.Neg.Counts) (hs1_1 : Sl rep_api_Pair w A v1_1 a1.Attrs) (hs1_13 : Sl Rep.u w A v1_13 a1.Hist.Pos.Counts) (hs1_15 : Sl Rep.u w A v1_15 a1.Hist.Neg.Counts) {r0 : Bool} (h : law16_TocumNext a0 a1 a2 = some r0) : Rets Try.prog 5 [ag [vB a0.Some, vi a0.Start, vi a0.Time, vi a0.Int_, vu a0.Re, vu a0.Im, vi a0.Hist.Scale, vu a0.Hist.Zero, vi a0.Hist.Pos.Offset, v0_9, vi a0.Hist.Neg.Offset, v0_11], ag [vs a1.Name, v1_1, vi a1.Kind, vi a1.Temp, vB a1.Mono, vi a1.Start, vi a1.Time, vi a1.Int_, vu a1.Re, vu a1.Im, vi a1.Hist.Scale, vu a1.Hist.Zero, vi a1.Hist.Pos.Offset, v1_13, vi a1.Hist.Neg.Offset, v1_15, vi a1.Flags], vi a2] w (fun v w' => v = vB r0 ∧ Ext w w') := by
 unfold law16_TocumNext at h
 refine Rets.enter Try.func5 z z ?_
 have aq : Sl Rep.u w (imm (Lg.O0 A)) v0_9 a0.Hist.Pos.Counts := (Sl.start hs0_9)
 have ar : Sl Rep.u w (imm (Lg.O0 A)) v0_11 a0.Hist.Neg.Counts := (Sl.start hs0_11)
 have eG : Sl rep_api_Pair w (imm (Lg.O0 A)) v1_1 a1.Attrs := (Sl.start hs1_1)
 have eH : Sl Rep.u w (imm (Lg.O0 A)) v1_13 a1.Hist.Pos.Counts := (Sl.start hs1_13)
 have eI : Sl Rep.u w (imm (Lg.O0 A)) v1_15 a1.Hist.Neg.Counts := (Sl.start hs1_15)
 refine (show WC _ _ _ _ [(0, ag [vB a0.Some, vi a0.Start, vi a0.Time, vi a0.Int_, vu a0.Re, vu a0.Im, vi a0.Hist.Scale, vu a0.Hist.Zero, vi a0.Hist.Pos.Offset, v0_9, vi a0.Hist.Neg.Offset, v0_11]), (1, ag [vs a1.Name, v1_1, vi a1.Kind, vi a1.Temp, vB a1.Mono, vi a1.Start, vi a1.Time, vi a1.Int_, vu a1.Re, vu a1.Im, vi a1.Hist.Scale, vu a1.Hist.Zero, vi a1.Hist.Pos.Offset, v1_13, vi a1.Hist.Neg.Offset, v1_15, vi a1.Flags]), (2, vi a2)] _ from ?_)
 refine sq (rg ?_)
 have eJ := h
 obtain ⟨Q, T, U, rfl⟩ := aq.shape
 have h := eJ
 have eK := h
 obtain ⟨V, W, X, rfl⟩ := ar.shape
 have h := eK
 refine WL.box (O := (Lg.O0 A)) 11 [vB a0.Some, vi a0.Start, vi a0.Time, vi a0.Int_, vu a0.Re, vu a0.Im, vi a0.Hist.Scale, vu a0.Hist.Zero, vi a0.Hist.Pos.Offset, (Value.slice Q T U), vi a0.Hist.Neg.Offset, (Value.slice V W X)] z z z ?_
 intro bd fY gm G a8
 have bA := eG.i G z z
 have eL := h
 obtain ⟨ae, af, ah, rfl⟩ := bA.shape
 have h := eL
 have bB := eH.i G z z
 have eM := h
 obtain ⟨ai, aj, ak, rfl⟩ := bB.shape
 have h := eM
 have bC := eI.i G z z
 have eN := h
 obtain ⟨al, am, an, rfl⟩ := bC.shape
 have h := eN
 refine WL.box (O := fY) 12 [vs a1.Name, (Value.slice ae af ah), vi a1.Kind, vi a1.Temp, vB a1.Mono, vi a1.Start, vi a1.Time, vi a1.Int_, vu a1.Re, vu a1.Im, vi a1.Hist.Scale, vu a1.Hist.Zero, vi a1.Hist.Pos.Offset, (Value.slice ai aj ak), vi a1.Hist.Neg.Offset, (Value.slice al am an), vi a1.Flags] z z z ?_
 intro bf f0 gn t eO
 refine wY (ya z) z (nl (th (sq (sq (rg ?_)))))
 obtain ⟨gB, eP, h⟩ := bnd h
 refine WL.call (vals := []) kok16 z z (c_law16_awake eP) ?_
 rintro gp eQ ⟨rfl, eR⟩
 obtain ⟨eF, f1, f2, n⟩ := adoptE f0 (fun k => 1) eR
 refine wY (Y.not z) z (nl (th ?_))
 rcases cnd h with ⟨a9, h⟩ | ⟨a9, h⟩
 ·refine WC.condT' z a9 (sq (rg (wY (ya z) z (nl (th (rt (At.thenR ?_)))))))
  obtain rfl := some1 h
  have eS : Stp [] (Lg.O0 A) w eF eQ := (tr_ (su_ G z) (tr_ (su_ t z) (su_ n z)))
  exact At.res (.inl z) z (.tmp z .nil) ⟨z, (se_ eS z z)⟩
 ·refine WC.condF' z a9 (sk (th (sq (sq (rg ?_)))))
  have ba := eO.st n z
  refine wY (yL ty37 z z (ba.cells 0 [vs a1.Name, (Value.slice ae af ah), vi a1.Kind, vi a1.Temp, vB a1.Mono, vi a1.Start, vi a1.Time, vi a1.Int_, vu a1.Re, vu a1.Im, vi a1.Hist.Scale, vu a1.Hist.Zero, vi a1.Hist.Pos.Offset, (Value.slice ai aj ak), vi a1.Hist.Neg.Offset, (Value.slice al am an), vi a1.Flags] z) z) z ?_
  have eT := bA.i t z z
  have bD := eT.i n z z
  have eU := bB.i t z z
  have bE := eU.i n z z
  have eV := bC.i t z z
  have bF := eV.i n z z
  obtain ⟨gC, eW, h⟩ := bnd h
  refine WL.call (vals := [ag [vs a1.Name, (Value.slice ae af ah), vi a1.Kind, vi a1.Temp, vB a1.Mono, vi a1.Start, vi a1.Time, vi a1.Int_, vu a1.Re, vu a1.Im, vi a1.Hist.Scale, vu a1.Hist.Zero, vi a1.Hist.Pos.Offset, (Value.slice ai aj ak), vi a1.Hist.Neg.Offset, (Value.slice al am an), vi a1.Flags]]) kok17 z z (c_ref12_Light (A := fun _ => True) (a0 := a1) (Sl.all bD) (Sl.all bE) (Sl.all bF) eW) ?_
  rintro gq eX ⟨rfl, eY⟩
  obtain ⟨bG, f3, f4, o⟩ := adoptE eF (fun k => 1) eY
  refine wY (Y.not z) z (wY (ym z) z ?_)
  obtain ⟨f5, h, eZ⟩ := bnd h
  refine WL.cut 5 (σ := (Bool × Own)) (fun x w' => x.1 = f5 ∧ Stp [] bG eX x.2 w') (fun x => [(2, vi a2), (3, pt bd 0), (4, pt bf 0), (21, vB x.1)]) ?_ ?_
  ·rcases cnd h with ⟨bb, h⟩ | ⟨bb, h⟩
   ·refine WL.ren 16 z (congrArg vB bb) (WL.gS z z z z (WL.gS z z z z (WL.gS z z z z (WL.gS z z z z (wY (Y.pick (b := true) z z) z ?_)))))
    exact nl (At.join (σ := (Bool × Own)) (true, bG) ⟨some1 h, (sr_ _ _ _)⟩ (.cons z (.cons z (.cons z (.cons z .nil)))))
   ·refine WL.ren 16 z (congrArg vB bb) (ug z z (wY (yf fo32_6 z) z (ug z z ?_)))
    have e0 := a8.st t z
    have e1 := e0.st n z
    have e2 := e1.st o z
    refine wY (yL ty30 z z (e2.cells 6 [vi a0.Hist.Scale, vu a0.Hist.Zero, vi a0.Hist.Pos.Offset, (Value.slice Q T U), vi a0.Hist.Neg.Offset, (Value.slice V W X)] z) z) z (ug z z ?_)
    have e5 := aq.i G z z
    have e6 := e5.i t z z
    have e7 := e6.i n z z
    have e8 := e7.i o z z
    have e9 := ar.i G z z
    have fa := e9.i t z z
    have fb := fa.i n z z
    have fc := fb.i o z z
    obtain ⟨f6, fd, h⟩ := bnd h
    refine WL.call (vals := [ag [vi a0.Hist.Scale, vu a0.Hist.Zero, vi a0.Hist.Pos.Offset, (Value.slice Q T U), vi a0.Hist.Neg.Offset, (Value.slice V W X)]]) kok18 z z (c_ref08_Light (A := fun _ => True) (a0 := a0.Hist) (Sl.all e8) (Sl.all fc) fd) ?_
    rintro gr gs ⟨rfl, fe⟩
    obtain ⟨f7, fL, fN, bH⟩ := adoptE bG (fun k => 1) fe
    refine ug z z (wY (Y.not z) z (wY (Y.pick (b := false) z z) z ?_))
    exact nl (At.join (σ := (Bool × Own)) ((!f6), f7) ⟨some1 h, (su_ bH z)⟩ (.cons z (.cons z (.cons z (.cons z .nil)))))
  ·rintro ⟨f8, bI⟩ ff ⟨rfl, C⟩
   replace h := eZ
   try dsimp only at h C
   refine (show WL _ _ _ _ _ [(2, vi a2), (3, pt bd 0), (4, pt bf 0), (21, vB f8)] _ from ?_)
   refine wY (ym z) z ?_
   obtain ⟨fg, h, bO⟩ := bnd h
   refine WL.cut 6 (σ := (Bool × Own)) (fun x w' => x.1 = fg ∧ Stp [] bI ff x.2 w') (fun x => [(2, vi a2), (3, pt bd 0), (4, pt bf 0), (28, vB x.1)]) ?_ ?_
   ·rcases cnd h with ⟨au, h⟩ | ⟨au, h⟩
    ·refine WL.ren 22 z (congrArg vB au) (WL.gS z z z z (WL.gS z z z z (WL.gS z z z z (WL.gS z z z z (WL.gS z z z z (wY (Y.pick (b := true) z z) z ?_))))))
     exact nl (At.join (σ := (Bool × Own)) (true, bI) ⟨some1 h, (sr_ _ _ _)⟩ (.cons z (.cons z (.cons z (.cons z .nil)))))
    ·refine WL.ren 22 z (congrArg vB au) (ug z z ?_)
     have bP := a8.st t z
     have bQ := bP.st n z
     have bR := bQ.st o z
     have bS := bR.st C z
     refine wY (yL ty32 z z (bS.cells 0 [vB a0.Some, vi a0.Start, vi a0.Time, vi a0.Int_, vu a0.Re, vu a0.Im, vi a0.Hist.Scale, vu a0.Hist.Zero, vi a0.Hist.Pos.Offset, (Value.slice Q T U), vi a0.Hist.Neg.Offset, (Value.slice V W X)] z) z) z (ug z z (wY (yf fo37_2 z) z (ug z z ?_)))
     have bT := ba.st o z
     have bU := bT.st C z
     refine wY (yl ty3 z z (bU.cell 2 _ z)) z (ug z z ?_)
     have bW := aq.i G z z
     have bX := bW.i t z z
     have bY := bX.i n z z
     have bZ := bY.i o z z
     have b0 := bZ.i C z z
     have b1 := ar.i G z z
     have b2 := b1.i t z z
     have b3 := b2.i n z z
     have b4 := b3.i o z z
     have b5 := b4.i C z z
     obtain ⟨fh, b6, h⟩ := bnd h
     refine WL.call (vals := [ag [vB a0.Some, vi a0.Start, vi a0.Time, vi a0.Int_, vu a0.Re, vu a0.Im, vi a0.Hist.Scale, vu a0.Hist.Zero, vi a0.Hist.Pos.Offset, (Value.slice Q T U), vi a0.Hist.Neg.Offset, (Value.slice V W X)], vi a1.Kind]) kok19 z z (c_ref16_Own (A := fun _ => True) (a0 := a0) (Sl.all b0) (Sl.all b5) b6) ?_
     rintro f9 ga ⟨rfl, b7⟩
     obtain ⟨fi, fO, fP, bJ⟩ := adoptE bI (fun k => 1) b7
     refine ug z z (wY (Y.not z) z (wY (Y.pick (b := false) z z) z ?_))
     exact nl (At.join (σ := (Bool × Own)) ((!fh), fi) ⟨some1 h, (su_ bJ z)⟩ (.cons z (.cons z (.cons z (.cons z .nil)))))
   ·rintro ⟨fj, bK⟩ b8 ⟨rfl, D⟩
    replace h := bO
    try dsimp only at h D
    refine (show WL _ _ _ _ _ [(2, vi a2), (3, pt bd 0), (4, pt bf 0), (28, vB fj)] _ from ?_)
    refine nl (th ?_)
    rcases cnd h with ⟨av, h⟩ | ⟨av, h⟩
    ·refine WC.condT' z av (sq (rg (wY (ya z) z (nl (th (rt (At.thenR ?_)))))))
     obtain rfl := some1 h
     have b9 : Stp [] (Lg.O0 A) w bK b8 := (tr_ (su_ G z) (tr_ (su_ t z) (tr_ (su_ n z) (tr_ (su_ o z) (tr_ (su_ C z) (su_ D z))))))
     exact At.res (.inl z) z (.tmp z .nil) ⟨z, (se_ b9 z z)⟩
    ·refine WC.condF' z av (sk (th (sq (rg ?_))))
     have ca := a8.st t z
     have cb := ca.st n z
     have cc := cb.st o z
     have cd := cc.st C z
     have bg := cd.st D z
     refine wY (yL ty32 z z (bg.cells 0 [vB a0.Some, vi a0.Start, vi a0.Time, vi a0.Int_, vu a0.Re, vu a0.Im, vi a0.Hist.Scale, vu a0.Hist.Zero, vi a0.Hist.Pos.Offset, (Value.slice Q T U), vi a0.Hist.Neg.Offset, (Value.slice V W X)] z) z) z ?_
     have ce := ba.st o z
     have cf := ce.st C z
     have bh := cf.st D z
     refine wY (yL ty37 z z (bh.cells 0 [vs a1.Name, (Value.slice ae af ah), vi a1.Kind, vi a1.Temp, vB a1.Mono, vi a1.Start, vi a1.Time, vi a1.Int_, vu a1.Re, vu a1.Im, vi a1.Hist.Scale, vu a1.Hist.Zero, vi a1.Hist.Pos.Offset, (Value.slice ai aj ak), vi a1.Hist.Neg.Offset, (Value.slice al am an), vi a1.Flags] z) z) z (wY (ym z) z ?_)
     have cg := aq.i G z z
     have ch := cg.i t z z
     have ci := ch.i n z z
     have cj := ci.i o z z
     have ck := cj.i C z z
     have bi := ck.i D z z
     have cl := ar.i G z z
     have cm := cl.i t z z
     have cn := cm.i n z z
     have co := cn.i o z z
     have cp := co.i C z z
     have bj := cp.i D z z
     have cq := bD.i o z z
     have cr := cq.i C z z
     have bk := cr.i D z z
     have cs := bE.i o z z
     have ct := cs.i C z z
     have bl := ct.i D z z
     have cu := bF.i o z z
     have cv := cu.i C z z
     have bm := cv.i D z z
     obtain ⟨⟨e, d, ab⟩, cw, h⟩ := bnd h
     refine WL.call (vals := [ag [vB a0.Some, vi a0.Start, vi a0.Time, vi a0.Int_, vu a0.Re, vu a0.Im, vi a0.Hist.Scale, vu a0.Hist.Zero, vi a0.Hist.Pos.Offset, (Value.slice Q T U), vi a0.Hist.Neg.Offset, (Value.slice V W X)], ag [vs a1.Name, (Value.slice ae af ah), vi a1.Kind, vi a1.Temp, vB a1.Mono, vi a1.Start, vi a1.Time, vi a1.Int_, vu a1.Re, vu a1.Im, vi a1.Hist.Scale, vu a1.Hist.Zero, vi a1.Hist.Pos.Offset, (Value.slice ai aj ak), vi a1.Hist.Neg.Offset, (Value.slice al am an), vi a1.Flags], vi a2]) kok20 z z (c_tocum_Next (A := fun _ => True) (a0 := a0) (a1 := a1) (Sl.all bi) (Sl.all bj) (Sl.all bk) (Sl.all bl) (Sl.all bm) cw) ?_
     rintro gb Z ⟨fk, fl, fm, fn, fo, rfl, cx, fp, fq, fr, fs, ft⟩
     obtain ⟨ac, fQ, J, H⟩ := adoptE bK (fun k => 1) cx
     have cy : Sl Rep.u Z (frs ac) fk e.Hist.Pos.Counts := Sl.adoptF fp (fun k hk => ⟨hk, z⟩) J
     have cz : Sl Rep.u Z (frs ac) fl e.Hist.Neg.Counts := Sl.adoptF fq (fun k hk => ⟨hk, z⟩) J
     have cA : Sl rep_api_Pair Z (frs ac) fm d.Attrs := Sl.adoptF fr (fun k hk => ⟨hk, z⟩) J
     have cC : Sl Rep.u Z (frs ac) fn d.Hist.Pos.Counts := Sl.adoptF fs (fun k hk => ⟨hk, z⟩) J
     have cD : Sl Rep.u Z (frs ac) fo d.Hist.Neg.Counts := Sl.adoptF ft (fun k hk => ⟨hk, z⟩) J
     refine wY (ym z) z (wY (yx z z) z (wY (yx z z) z (wY (yx z z) z (WL.alloc (O := ac) 13 [vB false, vi 0, vi 0, vi 0, vu 0, vu 0, vi 0, vu 0, vi 0, Value.slice none 0 0, vi 0, Value.slice none 0 0] ty32 z z ?_))))
     intro gt fu gc p cE
     refine WL.alloc (O := fu) 14 [vs [], Value.slice none 0 0, vi 0, vi 0, vB false, vi 0, vi 0, vi 0, vu 0, vu 0, vi 0, vu 0, vi 0, Value.slice none 0 0, vi 0, Value.slice none 0 0, vi 0] ty37 z z ?_
     intro gu M gd j cF
     have cG := cy.f p z
     have bn := cG.f j z
     have cH := h
     obtain ⟨aw, ax, ay, rfl⟩ := bn.shape
     have h := cH
     have cI := cz.f p z
     have bo := cI.f j z
     have cJ := h
     obtain ⟨az, aA, aC, rfl⟩ := bo.shape
     have h := cJ
     have cK := cE.st j z
     refine WL.store (v := ag [vB e.Some, vi e.Start, vi e.Time, vi e.Int_, vu e.Re, vu e.Im, vi e.Hist.Scale, vu e.Hist.Zero, vi e.Hist.Pos.Offset, (Value.slice aw ax ay), vi e.Hist.Neg.Offset, (Value.slice az aA aC)]) (cells' := [vB e.Some, vi e.Start, vi e.Time, vi e.Int_, vu e.Re, vu e.Im, vi e.Hist.Scale, vu e.Hist.Zero, vi e.Hist.Pos.Offset, (Value.slice aw ax ay), vi e.Hist.Neg.Offset, (Value.slice az aA aC)]) ty32 z z cK z (le_ z) z z ?_
     intro ge l cL
     have cM := cA.f p z
     have cN := cM.f j z
     have bp := cN.f l z
     have cO := h
     obtain ⟨aD, aE, aF, rfl⟩ := bp.shape
     have h := cO
     have cP := cC.f p z
     have cQ := cP.f j z
     have bq := cQ.f l z
     have cR := h
     obtain ⟨aG, aH, aI, rfl⟩ := bq.shape
     have h := cR
     have cS := cD.f p z
     have cT := cS.f j z
     have br := cT.f l z
     have cU := h
     obtain ⟨aJ, aK, aL, rfl⟩ := br.shape
     have h := cU
     have cV := cF.st l z
     refine WL.store (v := ag [vs d.Name, (Value.slice aD aE aF), vi d.Kind, vi d.Temp, vB d.Mono, vi d.Start, vi d.Time, vi d.Int_, vu d.Re, vu d.Im, vi d.Hist.Scale, vu d.Hist.Zero, vi d.Hist.Pos.Offset, (Value.slice aG aH aI), vi d.Hist.Neg.Offset, (Value.slice aJ aK aL), vi d.Flags]) (cells' := [vs d.Name, (Value.slice aD aE aF), vi d.Kind, vi d.Temp, vB d.Mono, vi d.Start, vi d.Time, vi d.Int_, vu d.Re, vu d.Im, vi d.Hist.Scale, vu d.Hist.Zero, vi d.Hist.Pos.Offset, (Value.slice aG aH aI), vi d.Hist.Neg.Offset, (Value.slice aJ aK aL), vi d.Flags]) ty37 z z cV z (le_ z) z z ?_
     intro gf m cW
     refine wY (ya z) z (nl (th (sq (rg ?_))))
     have cX := bg.st H z
     have cY := cX.st p z
     have cZ := cY.st j z
     have c0 := cZ.st l z
     have c1 := c0.st m z
     refine wY (yL ty32 z z (c1.cells 0 [vB a0.Some, vi a0.Start, vi a0.Time, vi a0.Int_, vu a0.Re, vu a0.Im, vi a0.Hist.Scale, vu a0.Hist.Zero, vi a0.Hist.Pos.Offset, (Value.slice Q T U), vi a0.Hist.Neg.Offset, (Value.slice V W X)] z) z) z ?_
     have c2 := bh.st H z
     have c3 := c2.st p z
     have c4 := c3.st j z
     have c5 := c4.st l z
     have c6 := c5.st m z
     refine wY (yL ty37 z z (c6.cells 0 [vs a1.Name, (Value.slice ae af ah), vi a1.Kind, vi a1.Temp, vB a1.Mono, vi a1.Start, vi a1.Time, vi a1.Int_, vu a1.Re, vu a1.Im, vi a1.Hist.Scale, vu a1.Hist.Zero, vi a1.Hist.Pos.Offset, (Value.slice ai aj ak), vi a1.Hist.Neg.Offset, (Value.slice al am an), vi a1.Flags] z) z) z (wY (ym z) z ?_)
     have c7 := bi.i H z z
     have c8 := c7.i p z z
     have c9 := c8.i j z z
     have da := c9.i l z z
     have db := da.i m z z
     have dc := bj.i H z z
     have dd := dc.i p z z
     have de := dd.i j z z
     have df := de.i l z z
     have dg := df.i m z z
     have dh := bk.i H z z
     have di := dh.i p z z
     have dj := di.i j z z
     have dk := dj.i l z z
     have dl := dk.i m z z
     have dm := bl.i H z z
     have dn := dm.i p z z
     have dp := dn.i j z z
     have dr := dp.i l z z
     have ds := dr.i m z z
     have dt := bm.i H z z
     have du := dt.i p z z
     have dw := du.i j z z
     have dx := dw.i l z z
     have dy := dx.i m z z
     obtain ⟨c, dz, h⟩ := bnd h
     refine WL.call (vals := [ag [vB a0.Some, vi a0.Start, vi a0.Time, vi a0.Int_, vu a0.Re, vu a0.Im, vi a0.Hist.Scale, vu a0.Hist.Zero, vi a0.Hist.Pos.Offset, (Value.slice Q T U), vi a0.Hist.Neg.Offset, (Value.slice V W X)], ag [vs a1.Name, (Value.slice ae af ah), vi a1.Kind, vi a1.Temp, vB a1.Mono, vi a1.Start, vi a1.Time, vi a1.Int_, vu a1.Re, vu a1.Im, vi a1.Hist.Scale, vu a1.Hist.Zero, vi a1.Hist.Pos.Offset, (Value.slice ai aj ak), vi a1.Hist.Neg.Offset, (Value.slice al am an), vi a1.Flags], vi a2]) kok21 z z (c_ref16_Next (A := imm M) (a0 := a0) (a1 := a1) db dg dl ds dy dz) ?_
     rintro gg aa ⟨fv, fw, fx, fy, fz, rfl, dA, fA, fB, fC, fD, fF⟩
     obtain ⟨ad, K, L, I⟩ := adoptE M (fun k => 1) dA
     have dB : Sl Rep.u aa (imm ad) fv c.S.Hist.Pos.Counts := Sl.adoptI (O := M) fA (fun _ hk => hk) (fun _ _ => Nat.le_refl _) K L
     have dC : Sl Rep.u aa (imm ad) fw c.S.Hist.Neg.Counts := Sl.adoptI (O := M) fB (fun _ hk => hk) (fun _ _ => Nat.le_refl _) K L
     have dD : Sl rep_api_Pair aa (imm ad) fx c.P.Attrs := Sl.adoptI (O := M) fC (fun _ hk => hk) (fun _ _ => Nat.le_refl _) K L
     have dE : Sl Rep.u aa (imm ad) fy c.P.Hist.Pos.Counts := Sl.adoptI (O := M) fD (fun _ hk => hk) (fun _ _ => Nat.le_refl _) K L
     have dF : Sl Rep.u aa (imm ad) fz c.P.Hist.Neg.Counts := Sl.adoptI (O := M) fF (fun _ hk => hk) (fun _ _ => Nat.le_refl _) K L
     refine WL.alloc (O := ad) 15 [vB false, vi 0, vi 0, vi 0, vu 0, vu 0, vi 0, vu 0, vi 0, Value.slice none 0 0, vi 0, Value.slice none 0 0, vs [], Value.slice none 0 0, vi 0, vi 0, vB false, vi 0, vi 0, vi 0, vu 0, vu 0, vi 0, vu 0, vi 0, Value.slice none 0 0, vi 0, Value.slice none 0 0, vi 0, vi 0] ty48 z z ?_
     intro bL fG gh q dG
     have bs := dB.i q z z
     have dH := h
     obtain ⟨aM, aN, aO, rfl⟩ := bs.shape
     have h := dH
     have bt := dC.i q z z
     have dI := h
     obtain ⟨aP, aQ, aR, rfl⟩ := bt.shape
     have h := dI
     have bu := dD.i q z z
     have dJ := h
     obtain ⟨aS, aT, aU, rfl⟩ := bu.shape
     have h := dJ
     have bw := dE.i q z z
     have dK := h
     obtain ⟨aW, aX, aY, rfl⟩ := bw.shape
     have h := dK
     have bx := dF.i q z z
     have dL := h
     obtain ⟨aZ, a3, a4, rfl⟩ := bx.shape
     have h := dL
     refine WL.store (v := ag [vB c.S.Some, vi c.S.Start, vi c.S.Time, vi c.S.Int_, vu c.S.Re, vu c.S.Im, vi c.S.Hist.Scale, vu c.S.Hist.Zero, vi c.S.Hist.Pos.Offset, (Value.slice aM aN aO), vi c.S.Hist.Neg.Offset, (Value.slice aP aQ aR), vs c.P.Name, (Value.slice aS aT aU), vi c.P.Kind, vi c.P.Temp, vB c.P.Mono, vi c.P.Start, vi c.P.Time, vi c.P.Int_, vu c.P.Re, vu c.P.Im, vi c.P.Hist.Scale, vu c.P.Hist.Zero, vi c.P.Hist.Pos.Offset, (Value.slice aW aX aY), vi c.P.Hist.Neg.Offset, (Value.slice aZ a3 a4), vi c.P.Flags, vi c.E]) (cells' := [vB c.S.Some, vi c.S.Start, vi c.S.Time, vi c.S.Int_, vu c.S.Re, vu c.S.Im, vi c.S.Hist.Scale, vu c.S.Hist.Zero, vi c.S.Hist.Pos.Offset, (Value.slice aM aN aO), vi c.S.Hist.Neg.Offset, (Value.slice aP aQ aR), vs c.P.Name, (Value.slice aS aT aU), vi c.P.Kind, vi c.P.Temp, vB c.P.Mono, vi c.P.Start, vi c.P.Time, vi c.P.Int_, vu c.P.Re, vu c.P.Im, vi c.P.Hist.Scale, vu c.P.Hist.Zero, vi c.P.Hist.Pos.Offset, (Value.slice aW aX aY), vi c.P.Hist.Neg.Offset, (Value.slice aZ a3 a4), vi c.P.Flags, vi c.E]) ty48 z z dG z (le_ z) z z ?_
     intro gi r a5
     refine nl (th (sq (rg ?_)))
     have dM := cL.st m z
     have dN := dM.st I z
     have dO := dN.st q z
     have dP := dO.st r z
     refine wY (yL ty32 z z (dP.cells 0 [vB e.Some, vi e.Start, vi e.Time, vi e.Int_, vu e.Re, vu e.Im, vi e.Hist.Scale, vu e.Hist.Zero, vi e.Hist.Pos.Offset, (Value.slice aw ax ay), vi e.Hist.Neg.Offset, (Value.slice az aA aC)] z) z) z (wY (yf fo48_0 z) z (wY (yL ty32 z z (a5.cells 0 [vB c.S.Some, vi c.S.Start, vi c.S.Time, vi c.S.Int_, vu c.S.Re, vu c.S.Im, vi c.S.Hist.Scale, vu c.S.Hist.Zero, vi c.S.Hist.Pos.Offset, (Value.slice aM aN aO), vi c.S.Hist.Neg.Offset, (Value.slice aP aQ aR)] z) z) z ?_))
     have dQ := bn.f l z
     have dR := dQ.f m z
     have dS := dR.f I z
     have dT := dS.f q z
     have dU := dT.f r z
     have dV := bo.f l z
     have dW := dV.f m z
     have dX := dW.f I z
     have dY := dX.f q z
     have dZ := dY.f r z
     have d0 := bs.i r z z
     have d1 := bt.i r z z
     obtain ⟨gw, d2, h⟩ := bnd h
     refine WL.call (vals := [ag [vB e.Some, vi e.Start, vi e.Time, vi e.Int_, vu e.Re, vu e.Im, vi e.Hist.Scale, vu e.Hist.Zero, vi e.Hist.Pos.Offset, (Value.slice aw ax ay), vi e.Hist.Neg.Offset, (Value.slice az aA aC)], ag [vB c.S.Some, vi c.S.Start, vi c.S.Time, vi c.S.Int_, vu c.S.Re, vu c.S.Im, vi c.S.Hist.Scale, vu c.S.Hist.Zero, vi c.S.Hist.Pos.Offset, (Value.slice aM aN aO), vi c.S.Hist.Neg.Offset, (Value.slice aP aQ aR)]]) kok22 z z (c_ref15_Same (A := fun _ => True) (a0 := e) (a1 := c.S) (Sl.all dU) (Sl.all dZ) (Sl.all d0) (Sl.all d1) d2) ?_
     rintro gj d3 ⟨rfl, d4⟩
     obtain ⟨bc, fR, fT, F⟩ := adoptE fG (fun k => 1) d4
     refine wY (ym z) z ?_
     obtain ⟨fH, h, d5⟩ := bnd h
     refine WL.cut 5 (σ := (Bool × Own)) (fun x w' => x.1 = fH ∧ Stp [] bc d3 x.2 w') (fun x => [(9, vi ab), (10, pt bL 0), (50, vB x.1)]) ?_ ?_
     ·rcases cnd h with ⟨a6, h⟩ | ⟨a6, h⟩
      ·refine WL.ren 45 z (congrArg vB a6) (ug z z ?_)
       have d6 := cW.st I z
       have d7 := d6.st q z
       have d8 := d7.st r z
       have d9 := d8.st F z
       refine wY (yL ty37 z z (d9.cells 0 [vs d.Name, (Value.slice aD aE aF), vi d.Kind, vi d.Temp, vB d.Mono, vi d.Start, vi d.Time, vi d.Int_, vu d.Re, vu d.Im, vi d.Hist.Scale, vu d.Hist.Zero, vi d.Hist.Pos.Offset, (Value.slice aG aH aI), vi d.Hist.Neg.Offset, (Value.slice aJ aK aL), vi d.Flags] z) z) z (ug z z (wY (yf fo48_1 z) z (ug z z ?_)))
       have ea := a5.st F z
       refine wY (yL ty37 z z (ea.cells 12 [vs c.P.Name, (Value.slice aS aT aU), vi c.P.Kind, vi c.P.Temp, vB c.P.Mono, vi c.P.Start, vi c.P.Time, vi c.P.Int_, vu c.P.Re, vu c.P.Im, vi c.P.Hist.Scale, vu c.P.Hist.Zero, vi c.P.Hist.Pos.Offset, (Value.slice aW aX aY), vi c.P.Hist.Neg.Offset, (Value.slice aZ a3 a4), vi c.P.Flags] z) z) z (ug z z ?_)
       have eb := bp.f m z
       have ec := eb.f I z
       have ed := ec.f q z
       have ee := ed.f r z
       have ef := ee.f F z
       have eg := bq.f m z
       have eh := eg.f I z
       have ei := eh.f q z
       have ej := ei.f r z
       have ek := ej.f F z
       have em := br.f m z
       have en := em.f I z
       have eo := en.f q z
       have ep := eo.f r z
       have er := ep.f F z
       have es := bu.i r z z
       have et := es.i F z z
       have eu := bw.i r z z
       have ew := eu.i F z z
       have ex := bx.i r z z
       have ey := ex.i F z z
       obtain ⟨fI, ez, h⟩ := bnd h
       refine WL.call (vals := [ag [vs d.Name, (Value.slice aD aE aF), vi d.Kind, vi d.Temp, vB d.Mono, vi d.Start, vi d.Time, vi d.Int_, vu d.Re, vu d.Im, vi d.Hist.Scale, vu d.Hist.Zero, vi d.Hist.Pos.Offset, (Value.slice aG aH aI), vi d.Hist.Neg.Offset, (Value.slice aJ aK aL), vi d.Flags], ag [vs c.P.Name, (Value.slice aS aT aU), vi c.P.Kind, vi c.P.Temp, vB c.P.Mono, vi c.P.Start, vi c.P.Time, vi c.P.Int_, vu c.P.Re, vu c.P.Im, vi c.P.Hist.Scale, vu c.P.Hist.Zero, vi c.P.Hist.Pos.Offset, (Value.slice aW aX aY), vi c.P.Hist.Neg.Offset, (Value.slice aZ a3 a4), vi c.P.Flags]]) kok23 z z (c_ref12_Same (A := fun _ => True) (a0 := d) (a1 := c.P) (Sl.all ef) (Sl.all ek) (Sl.all er) (Sl.all et) (Sl.all ew) (Sl.all ey) ez) ?_
       rintro gk gl ⟨rfl, eA⟩
       obtain ⟨fJ, fU, fV, bM⟩ := adoptE bc (fun k => 1) eA
       refine wY (Y.pick (b := true) z z) z ?_
       exact nl (At.join (σ := (Bool × Own)) (fI, fJ) ⟨some1 h, (su_ bM z)⟩ (.cons z (.cons z (.cons z .nil))))
      ·refine WL.ren 45 z (congrArg vB a6) (WL.gS z z z z (WL.gS z z z z (WL.gS z z z z (WL.gS z z z z (wY (Y.pick (b := false) z z) z ?_)))))
       exact nl (At.join (σ := (Bool × Own)) (false, bc) ⟨some1 h, (sr_ _ _ _)⟩ (.cons z (.cons z (.cons z .nil))))
     ·rintro ⟨ao, fK⟩ bz ⟨rfl, ap⟩
      replace h := d5
      try dsimp only at h ap
      refine (show WL _ _ _ _ _ [(9, vi ab), (10, pt bL 0), (50, vB ao)] _ from ?_)
      refine wY (ym z) z ?_
      refine WL.cut 5 (σ := Unit) (fun _ w' => bz = w') (fun _ => [(56, vB (ao && (decide (ab = c.E))))]) ?_ ?_
      ·refine WL.part 51 z (fun a7 => ?_) (fun a7 => ?_)
       ·refine ug z z (wY (ym z) z (ug z z (wY (yf fo48_2 z) z (ug z z ?_))))
        have eB := a5.st F z
        have eC := eB.st ap z
        refine wY (yl ty38 z z (eC.cell 29 _ z)) z (ug z z (wY (Y.eql_i z z) z (wY (Y.pick (b := true) z z) z (WL.ren (v' := vB (ao && (decide (ab = c.E)))) 56 z (congrArg vB (andT a7)) ?_))))
        exact nl (At.join () z (.cons z .nil))
       ·refine WL.gS z z z z (WL.gS z z z z (WL.gS z z z z (WL.gS z z z z (wY (Y.pick (b := false) z z) z (WL.ren (v' := vB (ao && (decide (ab = c.E)))) 56 z (congrArg vB (andF a7)) ?_)))))
        exact nl (At.join () z (.cons z .nil))
      ·rintro _ _ rfl
       refine (show WL _ _ _ _ _ [(56, vB (ao && (decide (ab = c.E))))] _ from ?_)
       obtain ⟨gz, eD, h⟩ := lt1 h
       refine WL.yE (ya z) (congrArg vB eD.symm) z (nl (th (rt ?_)))
       obtain rfl := some1 h
       have eE : Stp [13, 14, 15] (Lg.O0 A) w fK bz := (tr_ (su_ G z) (tr_ (su_ t z) (tr_ (su_ n z) (tr_ (su_ o z) (tr_ (su_ C z) (tr_ (su_ D z) (tr_ (su_ H z) (tr_ (su_ p z) (tr_ (su_ j z) (tr_ (su_ l z) (tr_ (su_ m z) (tr_ (su_ I z) (tr_ (su_ q z) (tr_ (su_ r z) (tr_ (su_ F z) (su_ ap z))))))))))))))))
       exact At.res (.inl z) z (.tmp z .nil) ⟨z, (se_ eE z z)⟩
end Go.Lg
