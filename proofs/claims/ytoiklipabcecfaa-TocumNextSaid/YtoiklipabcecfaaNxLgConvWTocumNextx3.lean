/- The walks of TocumNext and of what it calls, printed by gen.py. -/
import Derived.Test.YtoiklipabcecfaaNxLgConvWTocumNextx2
set_option linter.unusedVariables false
namespace Go.Lg
open Go Go.Proofs
set_option maxRecDepth 100000
set_option maxHeartbeats 4000000
theorem c_ref08_Trim {A : Nat → Prop} {v0_1 : Value} {a0 : api_Side} {w : World} (hs0_1 : Sl Rep.u w A v0_1 a0.Counts) {r0 : api_Side} (h : ref08_Trim a0 = some r0) : Rets Try.prog 83 [ag [vi a0.Offset, v0_1]] w (fun v w' => ∃ (ah : Value), v = ag [vi r0.Offset, ah] ∧ Ext w w' ∧ Sl Rep.u w' (fun k => w.heap.size ≤ k) ah r0.Counts) := by
 unfold ref08_Trim at h
 refine Rets.enter Try.func83 z z ?_
 have ai : Sl Rep.u w (imm (Lg.O0 A)) v0_1 a0.Counts := (Sl.start hs0_1)
 refine (show WC _ _ _ _ [(0, ag [vi a0.Offset, v0_1])] _ from ?_)
 refine sq (rg ?_)
 have bi := h
 obtain ⟨a4, a5, a6, rfl⟩ := ai.shape
 have h := bi
 refine WL.box (O := (Lg.O0 A)) 11 [vi a0.Offset, (Value.slice a4 a5 a6)] z z z ?_
 intro cg bK b8 r bj
 refine WL.alloc (O := bK) 12 [vi 0, Value.slice none 0 0] ty28 z z ?_
 intro d Z Q p aj
 refine nl (th (sq (rg (wY (yf fo28_1 z) z ?_))))
 have ak := bj.st p z
 refine wY (yl ty26 z z (ak.cell 1 _ z)) z (wY (ya z) z (nl (th (sq (rg (wY (yf fo28_0 z) z (wY (yl ty3 z z (ak.cell 0 _ z)) z (wY (ya z) z (nl ?_)))))))))
 refine th (sq ?_)
 obtain ⟨bL, h, bk⟩ := bnd h
 refine WC.join (σ := (List UInt64 × Int × Own × Value)) (fun x w' => (x.1, x.2.1) = bL ∧ Stp [] Z Q x.2.2.1 w' ∧ Sl Rep.u w' (imm x.2.2.1) x.2.2.2 x.1) (fun x => [(2, pt d 0), (3, x.2.2.2), (4, vi x.2.1)]) ?_ ?_
 ·refine WC.block ?_
  obtain ⟨a7, h, bl⟩ := flow1 h
  obtain ⟨a8, h⟩ := loop_some h
  refine WC.joinB 0 (σ := (List UInt64 × Int × Own × Value)) (fun x w' => a7 = .go (x.1, x.2.1) ∧ Stp [] Z Q x.2.2.1 w' ∧ Sl Rep.u w' (imm x.2.2.1) x.2.2.2 x.1) (fun x => [(2, pt d 0), (3, x.2.2.2), (4, vi x.2.1)]) ?_ ?_
  ·have bm := ai.i r z z
   have bn := bm.i p z z
   refine WC.loop (σ := (List UInt64 × Int × Own × Value)) (fun x k w' => loopN k (ref08_Trim_lp1) (x.1, x.2.1) = some a7 ∧ Stp [] Z Q x.2.2.1 w' ∧ Sl Rep.u w' (imm x.2.2.1) x.2.2.2 x.1) (fun x => [(2, pt d 0), (3, x.2.2.2), (4, vi x.2.1)]) (a0.Counts, a0.Offset, Z, (Value.slice a4 a5 a6)) a8 (.cons z (.cons z (.cons z .nil))) ⟨h, (sr_ _ _ _), bn⟩ ?_
   rintro ⟨bM, t, a9, J⟩ a8 bo ⟨h, C, q⟩
   obtain ⟨bO, ch, rfl, h, al⟩ := rnd1 h
   unfold ref08_Trim_lp1 at h
   try dsimp only at h C q
   refine (show WC _ _ _ _ [(2, pt d 0), (3, J), (4, vi t)] _ from ?_)
   refine sq (sq (rg (wY (ym z) z (wY (Y.len ty26 z q) z (wY (Y.gtr_i z z) z (wY (ym z) z ?_))))))
   obtain ⟨bP, h, bp⟩ := bnd h
   refine WL.cut 5 (σ := Bool) (fun x w' => x = bP ∧ bo = w') (fun x => [(2, pt d 0), (3, J), (4, vi t), (18, vB x)]) ?_ ?_
   ·rcases cnd h with ⟨S, h⟩ | ⟨S, h⟩
    ·refine WL.ren 13 z (congrArg vB S) (ug z z (wY (ym z) z (ug z z ?_)))
     obtain ⟨ba, bq, h⟩ := bnd h
     obtain ⟨ci, b3, b4, b9, br, bs, bt, T, az, bu⟩ := Sl.at2 q bq
     obtain rfl := az
     replace T : CellsAt _ _ _ [vu ba] := T
     have aA := CAt.imm T bu
     refine wY (Y.indexAddr ty26 ty25 z br z bs bt) z (ug z z (wY (yl ty25 z z aA.at_) z (ug z z (wY (Y.eql_u (b := 0) z z) z (wY (Y.pick (b := true) z z) z ?_)))))
     exact nl (At.join (σ := Bool) (decide (ba = 0)) ⟨some1 h, z⟩ (.cons z (.cons z (.cons z (.cons z .nil)))))
    ·refine WL.ren 13 z (congrArg vB S) (WL.gS z z z z (WL.gS z z z z (WL.gS z z z z (WL.gS z z z z (wY (Y.pick (b := false) z z) z ?_)))))
     exact nl (At.join (σ := Bool) false ⟨some1 h, z⟩ (.cons z (.cons z (.cons z (.cons z .nil)))))
   ·rintro bQ _ ⟨rfl, rfl⟩
    replace h := bp
    try dsimp only at h
    refine (show WL _ _ _ _ _ [(2, pt d 0), (3, J), (4, vi t), (18, vB bQ)] _ from ?_)
    refine nl (th ?_)
    rcases cnd h with ⟨U, h⟩ | ⟨U, h⟩
    ·refine WC.condT' z U (sk (th (WC.block (sq (rg (wY (ym z) z ?_))))))
     obtain ⟨bR, bw, h⟩ := bnd h
     obtain ⟨bS, bx, bz⟩ := Sl.slice (ρ := [(19, J)]) (x := (.tmp 19)) (lo := (some (.const (.int .i64 1)))) (hi := none) ty26 ty25 rfl rfl rfl q bw
     refine wY (Y.sub (.cons z .nil) (bx _ _)) z (wY (ya z) z (nl (th (rg (wY (ym z) z (wY (Y.add_i z z) z ?_))))))
     obtain ⟨bA, aC, h⟩ := lt1 h
     refine WL.yE (ya z) (congrArg vi aC.symm) z (nl (At.inBlock ?_))
     exact At.round (bR, bA, a9, bS) bO (Nat.lt_succ_self _) ⟨next1 h al, (su_ C z), bz⟩ (.cons z (.cons z (.cons z .nil)))
    ·refine WC.condF' z U (WC.exit (At.thenX (At.loopX ?_)))
     exact At.hitB (σ := (List UInt64 × Int × Own × Value)) (bM, t, a9, J) ⟨brk1 h al, (su_ C z), q⟩ (.cons z (.cons z (.cons z .nil)))
  ·rintro ⟨bT, am, bU, bb⟩ ca ⟨rfl, aa, an⟩
   replace h := flowK_go bl
   try dsimp only at h aa an
   refine (show At _ _ _ [(2, pt d 0), (3, bb), (4, vi am)] _ from ?_)
   refine At.inBlockHit ?_
   exact At.join (σ := (List UInt64 × Int × Own × Value)) (bT, am, bU, bb) ⟨some1 h, (su_ aa z), an⟩ (.cons z (.cons z (.cons z .nil)))
 ·rintro ⟨bW, c, ab, bc⟩ V ⟨rfl, j, ao⟩
  replace h := bk
  try dsimp only at h j ao
  refine (show At _ _ _ [(2, pt d 0), (3, bc), (4, vi c)] _ from ?_)
  refine th (sq ?_)
  obtain ⟨bX, h, bB⟩ := bnd h
  refine WC.join (σ := (List UInt64 × Own × Value)) (fun x w' => x.1 = bX ∧ Stp [] ab V x.2.1 w' ∧ Sl Rep.u w' (imm x.2.1) x.2.2 x.1) (fun x => [(2, pt d 0), (3, x.2.2), (4, vi c)]) ?_ ?_
  ·refine WC.block ?_
   obtain ⟨ap, h, aD⟩ := flow1 h
   obtain ⟨aq, h⟩ := loop_some h
   refine WC.joinB 2 (σ := (List UInt64 × Own × Value)) (fun x w' => ap = .go x.1 ∧ Stp [] ab V x.2.1 w' ∧ Sl Rep.u w' (imm x.2.1) x.2.2 x.1) (fun x => [(2, pt d 0), (3, x.2.2), (4, vi c)]) ?_ ?_
   ·refine WC.loop (σ := (List UInt64 × Own × Value)) (fun x k w' => loopN k (ref08_Trim_lp2) x.1 = some ap ∧ Stp [] ab V x.2.1 w' ∧ Sl Rep.u w' (imm x.2.1) x.2.2 x.1) (fun x => [(2, pt d 0), (3, x.2.2), (4, vi c)]) (bW, ab, bc) aq (.cons z (.cons z (.cons z .nil))) ⟨h, (sr_ _ _ _), ao⟩ ?_
    rintro ⟨bd, bf, K⟩ aq bC ⟨h, D, e⟩
    obtain ⟨bD, cb, rfl, h, ac⟩ := rnd1 h
    unfold ref08_Trim_lp2 at h
    try dsimp only at h D e
    refine (show WC _ _ _ _ [(2, pt d 0), (3, K), (4, vi c)] _ from ?_)
    refine sq (sq (rg (wY (ym z) z (wY (Y.len ty26 z e) z (wY (Y.gtr_i z z) z (wY (ym z) z ?_))))))
    obtain ⟨bE, h, aE⟩ := bnd h
    refine WL.cut 8 (σ := Bool) (fun x w' => x = bE ∧ bC = w') (fun x => [(2, pt d 0), (3, K), (4, vi c), (34, vB x)]) ?_ ?_
    ·rcases cnd h with ⟨F, h⟩ | ⟨F, h⟩
     ·refine WL.ren 26 z (congrArg vB F) (ug z z (wY (ym z) z (ug z z (wY (ym z) z (ug z z (wY (Y.len ty26 z e) z (ug z z (wY (Y.sub_i z z) z (ug z z ?_)))))))))
      obtain ⟨ar, aF, h⟩ := bnd h
      obtain ⟨cc, bY, bZ, b5, aG, aH, aI, G, au, aJ⟩ := Sl.at2 e aF
      obtain rfl := au
      replace G : CellsAt _ _ _ [vu ar] := G
      have av := CAt.imm G aJ
      refine wY (Y.indexAddr ty26 ty25 z aG z aH aI) z (ug z z (wY (yl ty25 z z av.at_) z (ug z z (wY (Y.eql_u (b := 0) z z) z (wY (Y.pick (b := true) z z) z ?_)))))
      exact nl (At.join (σ := Bool) (decide (ar = 0)) ⟨some1 h, z⟩ (.cons z (.cons z (.cons z (.cons z .nil)))))
     ·refine WL.ren 26 z (congrArg vB F) (WL.gS z z z z (WL.gS z z z z (WL.gS z z z z (WL.gS z z z z (WL.gS z z z z (WL.gS z z z z (WL.gS z z z z (wY (Y.pick (b := false) z z) z ?_))))))))
      exact nl (At.join (σ := Bool) false ⟨some1 h, z⟩ (.cons z (.cons z (.cons z (.cons z .nil)))))
    ·rintro bF _ ⟨rfl, rfl⟩
     replace h := aE
     try dsimp only at h
     refine (show WL _ _ _ _ _ [(2, pt d 0), (3, K), (4, vi c), (34, vB bF)] _ from ?_)
     refine nl (th ?_)
     rcases cnd h with ⟨H, h⟩ | ⟨H, h⟩
     ·refine WC.condT' z H (sk (th (WC.block (rg (wY (ym z) z (wY (ym z) z (wY (Y.len ty26 z e) z (wY (Y.sub_i z z) z ?_))))))))
      obtain ⟨bG, aK, h⟩ := bnd h
      obtain ⟨bH, aL, aM⟩ := Sl.slice (ρ := [(35, K), (38, vi (w64 ((bd.length : Int) - 1)))]) (x := (.tmp 35)) (lo := none) (hi := (some (.tmp 38))) ty26 ty25 rfl rfl rfl e aK
      refine wY (Y.sub (.cons z (.cons z .nil)) (aL _ _)) z (wY (ya z) z (nl (At.inBlock ?_)))
      exact At.round (bG, bf, bH) bD (Nat.lt_succ_self _) ⟨next1 h ac, (su_ D z), aM⟩ (.cons z (.cons z (.cons z .nil)))
     ·refine WC.condF' z H (WC.exit (At.thenX (At.loopX ?_)))
      exact At.hitB (σ := (List UInt64 × Own × Value)) (bd, bf, K) ⟨brk1 h ac, (su_ D z), e⟩ (.cons z (.cons z (.cons z .nil)))
   ·rintro ⟨b0, b1, bg⟩ cd ⟨rfl, ad, aw⟩
    replace h := flowK_go aD
    try dsimp only at h ad aw
    refine (show At _ _ _ [(2, pt d 0), (3, bg), (4, vi c)] _ from ?_)
    refine At.inBlockHit ?_
    exact At.join (σ := (List UInt64 × Own × Value)) (b0, b1, bg) ⟨some1 h, (su_ ad z), aw⟩ (.cons z (.cons z (.cons z .nil)))
  ·rintro ⟨cj, bh, b2⟩ bI ⟨rfl, l, W⟩
   replace h := bB
   try dsimp only at h l W
   refine (show At _ _ _ [(2, pt d 0), (3, b2), (4, vi c)] _ from ?_)
   refine th (sq (sq (rg (wY (ym z) z (wY (Y.len ty26 z W) z (wY (Y.eql_i z z) z (nl (th ?_))))))))
   rcases cnd h with ⟨I, h⟩ | ⟨I, h⟩
   ·refine WC.condT' z I (sq (rg (wY (yb (vals := []) (cells := [vi 0, Value.slice none 0 0]) (fe_ z) (by kernel_rfl)) z ?_)))
    have aN := aj.st j z
    have aO := aN.st l z
    refine WL.store (v := ag [vi 0, Value.slice none 0 0]) (cells' := [vi 0, Value.slice none 0 0]) ty28 z z aO z (le_ z) z z ?_
    intro aP ax aQ
    refine nl (th (rt (At.thenR ?_)))
    obtain rfl := some1 h
    have aR : Stp [12] (Lg.O0 A) w bh aP := (tr_ (su_ r z) (tr_ (su_ p z) (tr_ (su_ j z) (tr_ (su_ l z) (su_ ax z)))))
    exact At.res (.inl z) z (.cell z (aQ.runAg 0 [vi 0, Value.slice none 0 0] ty28 z z z) .nil) ⟨Value.slice none 0 0, z, (se_ aR z z), (Or.inl ⟨z, z⟩)⟩
   ·refine WC.condF' z I (sk (th (sq (rg (wY (ya z) z (nl (th (sq (rg ?_)))))))))
    refine wY (ym z) z (wY (ym z) z ?_)
    obtain ⟨b6, ay, h⟩ := bnd h
    have aS := OwnSl.nil (O := bh) (w := bI) 13 Rep.u 25
    refine WL.append (by decide) ty26 ty25 z (by decide) z z aS (Sl.src W) ay z ?_
    intro ce cf b7 L ae
    refine wY (ya z) z (nl (th (sq (rg (wY (ym z) z (wY (ym z) z ?_))))))
    have aT := h
    obtain ⟨m, n, o, rfl⟩ := ae.shape
    have h := aT
    refine wY (yb (vals := [(0, vi c), (1, (Value.slice m n o))]) (cells := [vi c, (Value.slice m n o)]) (fe_ z) (by kernel_rfl)) z ?_
    have aU := aj.st j z
    have aW := aU.st l z
    have aX := aW.st L z
    refine WL.store (v := ag [vi c, (Value.slice m n o)]) (cells' := [vi c, (Value.slice m n o)]) ty28 z z aX z (le_ z) z z ?_
    intro aY M aZ
    refine nl (th (rt ?_))
    obtain rfl := some1 h
    have a1 := ae.st M z z z
    obtain ⟨bJ, P, a2⟩ := OwnSl.giveF rfl Flat.u a1
    have af : Stp [12, 13] (Lg.O0 A) w bJ aY := (tr_ (su_ r z) (tr_ (su_ p z) (tr_ (su_ j z) (tr_ (su_ l z) (tr_ (su_ L z) (tr_ (su_ M z) (su_ P z)))))))
    have a3 := aZ.st P z
    exact At.res (.inl z) z (.cell z (a3.runAg 0 [vi c, (Value.slice m n o)] ty28 z z z) .nil) ⟨(Value.slice m n o), z, (se_ af z z), (Sl.outF a2 af low0)⟩
theorem c_ref08_half {a0 : Int} {w : World} {r0 : Int} (h : ref08_half a0 = some r0) : Rets Try.prog 106 [vi a0] w (fun v w' => v = vi r0 ∧ Ext w w') := by
 unfold ref08_half at h
 refine Rets.enter Try.func106 z z ?_
 refine (show WC _ _ _ _ [(0, vi a0)] _ from ?_)
 refine sq (rg (wY (ya z) z (nl (th (sq (sq (rg (wY (ym z) z (wY (Y.lss_i z z) z ?_)))))))))
 refine nl (th ?_)
 rcases cnd h with ⟨c, h⟩ | ⟨c, h⟩
 ·refine WC.condT' z c (sq (rg (wY (ym z) z (wY (Y.sub_i z z) z (wY (Y.quo_i (by decide) z z) z (wY (Y.sub_i z z) z ?_))))))
  obtain ⟨m, d, h⟩ := lt1 h
  refine WL.yE (ya z) (congrArg vi d.symm) z (nl (th (rt (At.thenR ?_))))
  obtain rfl := some1 h
  have e : Stp [] (Lg.O0 (fun _ => False)) w (Lg.O0 (fun _ => False)) w := (sr_ _ _ _)
  exact At.res (.inl z) z (.tmp z .nil) ⟨z, (se_ e z z)⟩
 ·refine WC.condF' z c (sk (th (sq (rg (wY (ym z) z (wY (Y.quo_i (by decide) z z) z ?_))))))
  obtain ⟨n, j, h⟩ := lt1 h
  refine WL.yE (ya z) (congrArg vi j.symm) z (nl (th (rt ?_)))
  obtain rfl := some1 h
  have l : Stp [] (Lg.O0 (fun _ => False)) w (Lg.O0 (fun _ => False)) w := (sr_ _ _ _)
  exact At.res (.inl z) z (.tmp z .nil) ⟨z, (se_ l z z)⟩
theorem c_ref08_once {A : Nat → Prop} {v0_1 : Value} {a0 : api_Side} {w : World} (hs0_1 : Sl Rep.u w A v0_1 a0.Counts) {r0 : api_Side} (h : ref08_once a0 = some r0) : Rets Try.prog 84 [ag [vi a0.Offset, v0_1]] w (fun v w' => ∃ (aU : Value), v = ag [vi r0.Offset, aU] ∧ Ext w w' ∧ Sl Rep.u w' (fun k => w.heap.size ≤ k) aU r0.Counts) := by
 unfold ref08_once at h
 refine Rets.enter Try.func84 z z ?_
 have aW : Sl Rep.u w (imm (Lg.O0 A)) v0_1 a0.Counts := (Sl.start hs0_1)
 refine (show WC _ _ _ _ [(0, ag [vi a0.Offset, v0_1])] _ from ?_)
 refine sq (rg ?_)
 have cE := h
 obtain ⟨db, dc, dd, rfl⟩ := aW.shape
 have h := cE
 refine WL.box (O := (Lg.O0 A)) 11 [vi a0.Offset, (Value.slice db dc dd)] z z z ?_
 intro aH de dT aI cF
 refine WL.alloc (O := de) 12 [vi 0, Value.slice none 0 0] ty28 z z ?_
 intro H df dU J cG
 refine nl (th (sq (rg (WL.alloc (O := df) 13 [vi 0, Value.slice none 0 0] ty28 z z ?_))))
 intro m aX aY p cH
 refine nl (th (sq (sq (rg (wY (ya z) z (nl (th (WC.block ?_))))))))
 obtain ⟨cz, h, cI⟩ := flow1 h
 obtain ⟨cA, h⟩ := loop_some h
 refine WC.joinB 0 (σ := (Int × List UInt64 × Own × Value)) (fun x w' => cz = .go (x.1, x.2.1) ∧ Stp [13, 14, 15, 16, 1002, 1004] aX aY x.2.2.1 w' ∧ OwnSl 1008 Rep.u 25 x.2.2.1 w' x.2.2.2 x.2.1 ∧ Blk 13 x.2.2.1 w' m 28 [vi x.1, x.2.2.2]) (fun x => [(2, pt H 0), (3, pt m 0)]) ?_ ?_
 ·refine WC.loop (σ := (Int × List UInt64 × Int × Own × Value)) (fun x k w' => loopN k (ref08_once_lp1 a0) (x.1, x.2.1, x.2.2.1) = some cz ∧ Stp [13, 14, 15, 16, 1002, 1004] aX aY x.2.2.2.1 w' ∧ OwnSl 1004 Rep.u 25 x.2.2.2.1 w' x.2.2.2.2 x.2.1 ∧ Blk 13 x.2.2.2.1 w' m 28 [vi x.1, x.2.2.2.2]) (fun x => [(1, pt aH 0), (2, pt H 0), (3, pt m 0), (4, vi x.2.2.1)]) (0, [], 0, aX, Value.slice none 0 0) cA (.cons z (.cons z (.cons z (.cons z .nil)))) ⟨h, (sr_ _ _ _), (OwnSl.nil 1004 Rep.u 25), cH⟩ ?_
  rintro ⟨aa, dg, aJ, cC, cD⟩ cA cJ ⟨h, n, ap, aq⟩
  obtain ⟨dh, en, rfl, h, aZ⟩ := rnd1 h
  unfold ref08_once_lp1 at h
  try dsimp only at h n ap aq
  refine (show WC _ _ _ _ [(1, pt aH 0), (2, pt H 0), (3, pt m 0), (4, vi aJ)] _ from ?_)
  refine sq (sq (rg (wY (ym z) z (wY (yf fo28_1 z) z ?_))))
  have cK := cF.st J z
  have cL := cK.st p z
  have q := cL.st n z
  refine wY (yl ty26 z z (q.cell 1 _ z)) z ?_
  have cM := aW.i aI z z
  have cN := cM.i J z z
  have cO := cN.i p z z
  have K := cO.i n z z
  refine wY (Y.len ty26 z K) z (wY (Y.lss_i z z) z (nl (th ?_)))
  rcases cnd h with ⟨ar, h⟩ | ⟨ar, h⟩
  ·refine WC.condT' z ar (sk (th (sq ?_)))
   obtain ⟨di, h, cP⟩ := bnd h
   refine WC.join (σ := (Int × List UInt64 × Own × Value)) (fun x w' => (x.1, x.2.1) = di ∧ Stp [13, 14, 15, 1004] cC cJ x.2.2.1 w' ∧ OwnSl 1002 Rep.u 25 x.2.2.1 w' x.2.2.2 x.2.1 ∧ Blk 13 x.2.2.1 w' m 28 [vi x.1, x.2.2.2]) (fun x => [(1, pt aH 0), (2, pt H 0), (3, pt m 0), (4, vi aJ)]) ?_ ?_
   ·refine WC.block (sq (rg (wY (yf fo28_0 z) z (wY (yl ty3 z z (q.cell 0 _ z)) z (wY (ym z) z (wY (Y.add_i z z) z ?_))))))
    obtain ⟨aK, cQ, h⟩ := bnd h
    refine WL.call (vals := [vi (w64 (a0.Offset + aJ))]) kok106 z z (c_ref08_half cQ) ?_
    rintro dV dW ⟨rfl, cR⟩
    obtain ⟨ab, dj, dk, c⟩ := adoptE cC (fun k => 1) cR
    refine wY (ya z) z (nl (th (sq (rg (wY (yf fo28_1 z) z ?_)))))
    have e := aq.st c z
    refine wY (yl ty26 z z (e.cell 1 _ z)) z ?_
    have r := ap.st c z z z
    refine wY (Y.len ty26 z r.src.sl) z (wY (Y.eql_i z z) z (nl (th ?_)))
    rcases cnd h with ⟨au, h⟩ | ⟨au, h⟩
    ·refine WC.condT' z au (sq (rg (wY (ym z) z (wY (yf fo28_0 z) z (WL.store (v := vi aK) (cells' := [vi aK, cD]) ty3 z z e z (le_ z) z z ?_)))))
     intro dX L cS
     refine nl (th (rg (wY (yf fo28_1 z) z ?_)))
     have cT := q.st c z
     have cU := cT.st L z
     refine wY (yl ty26 z z (cU.cell 1 _ z)) z (wY (ym z) z ?_)
     obtain ⟨I, cV, h⟩ := bnd h
     have cW := K.i c z z
     have cX := cW.i L z z
     obtain ⟨eo, dl, dy, dY, cY, cZ, c0, av, bj, bk⟩ := Sl.at2 cX cV
     obtain rfl := bj
     replace av : CellsAt _ _ _ [vu I] := av
     have a1 := CAt.imm av bk
     refine wY (Y.indexAddr ty26 ty25 z cY z cZ c0) z (wY (yl ty25 z z a1.at_) z (WL.buildSlice (O := ab) (R := Rep.u) (vals := [(0, vu I)]) 14 [vu I] (xs := [I]) (by decide) ty26 ty25 (by decide) (by decide) (fe_ z) (by kernel_rfl) z ⟨[vu I], [], z, z, z⟩ z ?_))
     intro dZ d0 dz ac aL
     refine wY (yf fo28_1 z) z ?_
     have bl := h
     obtain ⟨aw, ax, ay, rfl⟩ := aL.shape
     have h := bl
     have bm := cS.st ac z
     refine WL.store (v := (Value.slice aw ax ay)) (cells' := [vi aK, (Value.slice aw ax ay)]) ty26 z z bm z (le_ z) z z ?_
     intro dA ad bn
     refine nl (At.inBlock ?_)
     have bo := aL.st ad z z z
     obtain ⟨c1, ae, bp⟩ := OwnSl.rlb 1002 rfl bo
     have bq := bn.st ae z
     exact At.join (σ := (Int × List UInt64 × Own × Value)) (aK, [I], c1, (Value.slice aw ax ay)) ⟨some1 h, (tr_ (su_ c z) (tr_ (su_ L z) (tr_ (su_ ac z) (tr_ (su_ ad z) (su_ ae z))))), bp, bq⟩ (.cons z (.cons z (.cons z (.cons z .nil))))
    ·refine WC.condF' z au (sq (rg (wY (ym z) z (wY (yf fo28_0 z) z (wY (yl ty3 z z (e.cell 0 _ z)) z (wY (yf fo28_1 z) z (wY (yl ty26 z z (e.cell 1 _ z)) z (wY (Y.len ty26 z r.src.sl) z (wY (Y.add_i z z) z ?_)))))))))
     refine wY (Y.sub_i z z) z (wY (Y.eql_i z z) z (nl (th ?_)))
     rcases cnd h with ⟨M, h⟩ | ⟨M, h⟩
     ·refine WC.condT' z M (sq (rg (wY (yf fo28_1 z) z (wY (yl ty26 z z (e.cell 1 _ z)) z (wY (Y.len ty26 z r.src.sl) z ?_)))))
      obtain ⟨dB, a2, h⟩ := lt1 h
      refine WL.yE (ya z) (congrArg vi a2.symm) z (nl (th (sq (WC.draw 12 ab fmix (by kernel_rfl) ?_))))
      intro dC j
      refine WS.y (yf fo28_1 z) z ?_
      have aM := e.st j z
      refine WS.y (yl ty26 z z (aM.cell 1 _ z)) z (WS.y (ym z) z (WS.y (Y.sub_i z z) z ?_))
      obtain ⟨c2, br, h⟩ := bnd h
      have P := r.st j z z z
      obtain ⟨d1, dm, dD, aN, bs, bt, Q, a3⟩ := OwnSl.at P br
      obtain rfl := a3
      replace Q : CellsAt _ _ _ [vu c2] := Q
      have a4 := CAt.own P aN Q
      refine WS.y (Y.indexAddr ty26 ty25 z aN z bs bt) z (WS.y (yl ty25 z z a4.at_) z (WS.y (yf fo28_1 z) z ?_))
      have bu := q.st c z
      have bw := bu.st j z
      refine WS.y (yl ty26 z z (bw.cell 1 _ z)) z (WS.y (ym z) z ?_)
      obtain ⟨c3, bx, h⟩ := bnd h
      have bz := K.i c z z
      have bA := bz.i j z z
      obtain ⟨d2, dn, dp, dE, bB, bC, bD, S, a5, bE⟩ := Sl.at2 bA bx
      obtain rfl := a5
      replace S : CellsAt _ _ _ [vu c3] := S
      have a6 := CAt.imm S bE
      refine WS.y (Y.indexAddr ty26 ty25 z bB z bC bD) z (WS.y (yl ty25 z z a6.at_) z (WS.y (Y.add_u z z) z (WS.tail ?_)))
      obtain ⟨l, az, h⟩ := lt1 h
      refine WL.yE (ya z) (congrArg vu az.symm) z (nl (th (rg (WL.buildSlice (O := ab) (R := Rep.u) (vals := []) 15 [] (xs := []) (by decide) ty26 ty25 (by decide) (by decide) (fe_ z) (by kernel_rfl) z z z ?_))))
      intro d3 d4 dF t bF
      refine wY (yf fo28_1 z) z ?_
      have aO := aM.st t z
      refine wY (yl ty26 z z (aO.cell 1 _ z)) z (wY (ym z) z (wY (Y.sub_i z z) z ?_))
      obtain ⟨d5, bG, h⟩ := bnd h
      have bH := P.st t z z z
      refine WL.sliceOwn ty26 ty25 z z z bH bG z ?_
      intro d6 bI
      obtain ⟨dG, a7, h⟩ := bnd h
      refine WL.append (by decide) ty26 ty25 z (by decide) z z bF bI.src a7 z ?_
      intro d7 c4 dH af bJ
      refine wY (ym z) z (WL.buildSlice (O := c4) (R := Rep.u) (vals := [(0, vu l)]) 16 [vu l] (xs := [l]) (by decide) ty26 ty25 (by decide) (by decide) (fe_ z) (by kernel_rfl) z ⟨[vu l], [], z, z, z⟩ z ?_)
      intro d8 d9 dI C bK
      obtain ⟨bL, a8, h⟩ := bnd h
      have bM := bJ.st C z z z
      refine WL.append (by decide) ty26 ty25 z (by decide) z z bM bK.src a8 z ?_
      intro ea eb dJ ah aP
      refine wY (yf fo28_1 z) z ?_
      have bO := h
      obtain ⟨aA, aC, aD, rfl⟩ := aP.shape
      have h := bO
      have bP := aO.st af z
      have bQ := bP.st C z
      have bR := bQ.st ah z
      refine WL.store (v := (Value.slice aA aC aD)) (cells' := [vi aa, (Value.slice aA aC aD)]) ty26 z z bR z (le_ z) z z ?_
      intro dK ai bS
      refine nl (At.inBlock ?_)
      have bT := aP.st ai z z z
      obtain ⟨c5, aj, bU⟩ := OwnSl.rlb 1002 rfl bT
      have bW := bS.st aj z
      exact At.join (σ := (Int × List UInt64 × Own × Value)) (aa, bL, c5, (Value.slice aA aC aD)) ⟨some1 h, (tr_ (su_ c z) (tr_ (su_ j z) (tr_ (su_ t z) (tr_ (su_ af z) (tr_ (su_ C z) (tr_ (su_ ah z) (tr_ (su_ ai z) (su_ aj z)))))))), bU, bW⟩ (.cons z (.cons z (.cons z (.cons z .nil))))
     ·refine WC.condF' z M (WC.drawH [1004] [0, 1, 2, 3, 4, 5, 6, 7, 8, 9] ab 11 fmix z (by kernel_rfl) ?_)
      intro dL d
      refine WD.y 0 z (by kernel_rfl) (fun _ _ _ => yf fo28_1 z) z (WD.y 1 z (by kernel_rfl) (fun dM ec a9 => have bX := e.st d z; have bY := bX.st a9 z; yl ty26 z z (bY.cell 1 _ z)) z (WD.y 2 z (by kernel_rfl) (fun _ _ _ => yf fo28_1 z) z (WD.y 3 z (by kernel_rfl) (fun dN ed ba => have bZ := q.st c z; have b0 := bZ.st d z; have b1 := b0.st ba z; yl ty26 z z (b1.cell 1 _ z)) z (WD.y 4 z (by kernel_rfl) (fun _ _ _ => ym z) z ?_))))
      obtain ⟨D, b2, h⟩ := bnd h
      have b3 := K.i c z z
      have b4 := b3.i d z z
      obtain ⟨ee, dr, ds, dO, b5, b6, b7, T, bb, b8⟩ := Sl.at2 b4 b2
      obtain rfl := bb
      replace T : CellsAt _ _ _ [vu D] := T
      have bc := CAt.imm T b8
      refine WD.y 5 z (by kernel_rfl) (fun _ _ _ => Y.indexAddr ty26 ty25 z b5 z b6 b7) z (WD.y 6 z (by kernel_rfl) (fun dP ef bd => have b9 := bc.st bd z; yl ty25 z z b9.at_) z (WD.heavy 7 z (by kernel_rfl) (WL.buildSlice (O := ab) (R := Rep.u) (vals := [(0, vu D)]) 17 [vu D] (xs := [D]) (by decide) ty26 ty25 (by decide) (by decide) (fe_ z) (by kernel_rfl) z ⟨[vu D], [], z, z, z⟩ z ?_)))
      intro eg eh dQ o ca
      refine nl (At.dq (su_ o z) (WD.heavy 8 z (by kernel_rfl) ?_))
      obtain ⟨cb, bf, h⟩ := bnd h
      have cc := r.st d z z z
      have cd := cc.st o z z z
      refine WL.append (by decide) ty26 ty25 z (by decide) z z cd ca.src bf z ?_
      intro ei ej dR F aQ
      refine nl (At.dq (su_ F z) (WD.y 9 z (by kernel_rfl) (fun _ _ _ => yf fo28_1 z) z (WD.phase [13] [0, 1, 2, 3, 4, 5, 6, 7, 8, 9, 10] (by kernel_rfl) (by kernel_rfl) (WD.heavy 10 z (by kernel_rfl) ?_))))
      have ce := h
      obtain ⟨p256, aE, aF, rfl⟩ := aQ.shape
      have h := ce
      have cf := e.st d z
      have cg := cf.st o z
      have ch := cg.st F z
      refine WL.store (v := (Value.slice p256 aE aF)) (cells' := [vi aa, (Value.slice p256 aE aF)]) ty26 z z ch z (le_ z) z z ?_
      intro dS G ci
      refine nl (At.dq (su_ G z) (WD.done_ (by kernel_rfl) (At.inBlock ?_)))
      have cj := aQ.st G z z z
      obtain ⟨c6, ak, ck⟩ := OwnSl.rlb 1002 rfl cj
      have cl := ci.st ak z
      exact At.join (σ := (Int × List UInt64 × Own × Value)) (aa, cb, c6, (Value.slice p256 aE aF)) ⟨some1 h, (tr_ (su_ c z) (tr_ (su_ d z) (tr_ (su_ o z) (tr_ (su_ F z) (tr_ (su_ G z) (su_ ak z)))))), ck, cl⟩ (.cons z (.cons z (.cons z (.cons z .nil))))
   ·rintro ⟨dt, du, ep, dw⟩ ek ⟨rfl, aR, bg, bh⟩
    replace h := cP
    try dsimp only at h aR bg bh
    refine (show At _ _ _ [(1, pt aH 0), (2, pt H 0), (3, pt m 0), (4, vi aJ)] _ from ?_)
    refine th (rg (wY (ym z) z (wY (Y.add_i z z) z ?_)))
    obtain ⟨c7, cm, h⟩ := lt1 h
    refine WL.yE (ya z) (congrArg vi cm.symm) z (nl ?_)
    obtain ⟨c8, al, cn⟩ := OwnSl.rlb 1004 rfl bg
    have co := bh.st al z
    exact At.round (dt, du, c7, c8, dw) dh (Nat.lt_succ_self _) ⟨next1 h aZ, (tr_ (su_ n z) (tr_ (su_ aR z) (su_ al z))), cn, co⟩ (.cons z (.cons z (.cons z (.cons z .nil))))
  ·refine WC.condF' z ar (WC.exit (At.thenX (At.loopX ?_)))
   obtain ⟨c9, am, cp⟩ := OwnSl.rlb 1008 rfl ap
   have cq := aq.st am z
   exact At.hitB (σ := (Int × List UInt64 × Own × Value)) (aa, dg, c9, cD) ⟨brk1 h aZ, (tr_ (su_ n z) (su_ am z)), cp, cq⟩ (.cons z (.cons z .nil))
 ·rintro ⟨aS, er, es, dx⟩ em ⟨rfl, U, aG, bi⟩
  replace h := flowK_go cI
  try dsimp only at h U aG bi
  refine (show At _ _ _ [(2, pt H 0), (3, pt m 0)] _ from ?_)
  refine At.inBlockHit (th (sq (rg (wY (yL ty28 z z (bi.cells 0 [vi aS, dx] z) z) z ?_))))
  have cr := h
  obtain ⟨V, W, Z, rfl⟩ := aG.shape
  have h := cr
  have cs := cG.st p z
  have ct := cs.st U z
  refine WL.store (v := ag [vi aS, (Value.slice V W Z)]) (cells' := [vi aS, (Value.slice V W Z)]) ty28 z z ct z (le_ z) z z ?_
  intro cu an cv
  refine nl (th (rt ?_))
  obtain rfl := some1 h
  have cw := aG.st an z z z
  obtain ⟨da, ao, cx⟩ := OwnSl.giveF rfl Flat.u cw
  have aT : Stp [12, 13, 14, 15, 16, 1002, 1004, 1008] (Lg.O0 A) w da cu := (tr_ (su_ aI z) (tr_ (su_ J z) (tr_ (su_ p z) (tr_ (su_ U z) (tr_ (su_ an z) (su_ ao z))))))
  have cy := cv.st ao z
  exact At.res (.inl z) z (.cell z (cy.runAg 0 [vi aS, (Value.slice V W Z)] ty28 z z z) .nil) ⟨(Value.slice V W Z), z, (se_ aT z z), (Sl.outF cx aT low0)⟩
theorem c_ref08_Down {A : Nat → Prop} {v0_3 : Value} {v0_5 : Value} {a0 : api_Hist} {a1 : Int} {w : World} (hs0_3 : Sl Rep.u w A v0_3 a0.Pos.Counts) (hs0_5 : Sl Rep.u w A v0_5 a0.Neg.Counts) {r0 : api_Hist} {r1 : Int} (h : ref08_Down a0 a1 = some (r0, r1)) : Rets Try.prog 54 [ag [vi a0.Scale, vu a0.Zero, vi a0.Pos.Offset, v0_3, vi a0.Neg.Offset, v0_5], vi a1] w (fun v w' => ∃ (b0 : Value) (b1 : Value), v = Value.tuple (List.toArray [ag [vi r0.Scale, vu r0.Zero, vi r0.Pos.Offset, b0, vi r0.Neg.Offset, b1], vi r1]) ∧ Ext w w' ∧ Sl Rep.u w' (fun k => w.heap.size ≤ k) b0 r0.Pos.Counts ∧ Sl Rep.u w' (fun k => w.heap.size ≤ k) b1 r0.Neg.Counts) := by
 unfold ref08_Down at h
 refine Rets.enter Try.func54 z z ?_
 have b2 : Sl Rep.u w (imm (Lg.O0 A)) v0_3 a0.Pos.Counts := (Sl.start hs0_3)
 have b3 : Sl Rep.u w (imm (Lg.O0 A)) v0_5 a0.Neg.Counts := (Sl.start hs0_5)
 refine (show WC _ _ _ _ [(0, ag [vi a0.Scale, vu a0.Zero, vi a0.Pos.Offset, v0_3, vi a0.Neg.Offset, v0_5]), (1, vi a1)] _ from ?_)
 refine sq (rg ?_)
 have ec := h
 obtain ⟨ar, au, av, rfl⟩ := b2.shape
 have h := ec
 have ed := h
 obtain ⟨V, W, Z, rfl⟩ := b3.shape
 have h := ed
 refine WL.box (O := (Lg.O0 A)) 11 [vi a0.Scale, vu a0.Zero, vi a0.Pos.Offset, (Value.slice ar au av), vi a0.Neg.Offset, (Value.slice V W Z)] z z z ?_
 intro eb fv fY r ee
 refine WL.alloc (O := fv) 12 [vi 0, vu 0, vi 0, Value.slice none 0 0, vi 0, Value.slice none 0 0] ty30 z z ?_
 intro o fw f0 n aW
 refine wY (ya z) z (nl (th (sq (sq (rg ?_)))))
 have T := ee.st n z
 refine wY (yL ty30 z z (T.cells 0 [vi a0.Scale, vu a0.Zero, vi a0.Pos.Offset, (Value.slice ar au av), vi a0.Neg.Offset, (Value.slice V W Z)] z) z) z ?_
 have ef := b2.i r z z
 have aX := ef.i n z z
 have eg := b3.i r z z
 have ax := eg.i n z z
 obtain ⟨gf, eh, h⟩ := bnd h
 refine WL.call (vals := [ag [vi a0.Scale, vu a0.Zero, vi a0.Pos.Offset, (Value.slice ar au av), vi a0.Neg.Offset, (Value.slice V W Z)]]) kok82 z z (c_ref08_Check (A := fun _ => True) (a0 := a0) (Sl.all aX) (Sl.all ax) eh) ?_
 rintro f1 ei ⟨rfl, ej⟩
 obtain ⟨aw, fx, fy, c⟩ := adoptE fw (fun k => 1) ej
 refine wY (ya z) z (nl (th (sq (rg (wY (ym z) z (wY (Y.neq_i z z) z (nl (th ?_))))))))
 rcases cnd h with ⟨aY, h⟩ | ⟨aY, h⟩
 ·refine WC.condT' z aY (sq (rg (wY (yb (vals := []) (cells := [vi 0, vu 0, vi 0, Value.slice none 0 0, vi 0, Value.slice none 0 0]) (fe_ z) (by kernel_rfl)) z (wY (ym z) z ?_))))
  have ek := aW.st c z
  refine WL.store (v := ag [vi 0, vu 0, vi 0, Value.slice none 0 0, vi 0, Value.slice none 0 0]) (cells' := [vi 0, vu 0, vi 0, Value.slice none 0 0, vi 0, Value.slice none 0 0]) ty30 z z ek z (le_ z) z z ?_
  intro em cl en
  refine wY (ya z) z (nl (th (rt (At.thenR ?_))))
  obtain ⟨rfl, rfl⟩ := tup2 h
  have eo : Stp [12] (Lg.O0 A) w aw em := (tr_ (su_ r z) (tr_ (su_ n z) (tr_ (su_ c z) (su_ cl z))))
  exact At.res (.inl z) z (.cell z (en.runAg 0 [vi 0, vu 0, vi 0, Value.slice none 0 0, vi 0, Value.slice none 0 0] ty30 z z z) (.tmp z .nil)) ⟨Value.slice none 0 0, Value.slice none 0 0, z, (se_ eo z z), (Or.inl ⟨z, z⟩), (Or.inl ⟨z, z⟩)⟩
 ·refine WC.condF' z aY (sk (th (sq (sq (rg (wY (ym z) z (wY (Y.lss_i z z) z (wY (ym z) z ?_))))))))
  refine WL.cut 6 (σ := Unit) (fun _ w' => ei = w') (fun _ => [(1, vi a1), (2, pt eb 0), (4, pt o 0), (23, vB ((decide (a1 < 0)) || (decide (w64 (a0.Scale - (-10)) < a1))))]) ?_ ?_
  ·refine WL.part 17 z (fun aZ => ?_) (fun aZ => ?_)
   ·refine WL.gS z z z z (WL.gS z z z z (WL.gS z z z z (WL.gS z z z z (WL.gS z z z z (wY (Y.pick (b := true) z z) z (WL.ren (v' := vB ((decide (a1 < 0)) || (decide (w64 (a0.Scale - (-10)) < a1)))) 23 z (congrArg vB (orT aZ)) ?_))))))
    exact nl (At.join () z (.cons z (.cons z (.cons z (.cons z .nil)))))
   ·refine ug z z (wY (ym z) z (ug z z (wY (yf fo30_0 z) z (ug z z ?_))))
    have ep := T.st c z
    refine wY (yl ty3 z z (ep.cell 0 _ z)) z (ug z z (wY (Y.sub_i z z) z (ug z z (wY (Y.gtr_i z z) z (wY (Y.pick (b := false) z z) z (WL.ren (v' := vB ((decide (a1 < 0)) || (decide (w64 (a0.Scale - (-10)) < a1)))) 23 z (congrArg vB (orF aZ)) ?_))))))
    exact nl (At.join () z (.cons z (.cons z (.cons z (.cons z .nil)))))
  ·rintro _ _ rfl
   refine (show WL _ _ _ _ _ [(1, vi a1), (2, pt eb 0), (4, pt o 0), (23, vB ((decide (a1 < 0)) || (decide (w64 (a0.Scale - (-10)) < a1))))] _ from ?_)
   refine nl (th ?_)
   rcases cnd h with ⟨a2, h⟩ | ⟨a2, h⟩
   ·refine WC.condT' z a2 (sq (rg (wY (yb (vals := []) (cells := [vi 0, vu 0, vi 0, Value.slice none 0 0, vi 0, Value.slice none 0 0]) (fe_ z) (by kernel_rfl)) z ?_)))
    have er := aW.st c z
    refine WL.store (v := ag [vi 0, vu 0, vi 0, Value.slice none 0 0, vi 0, Value.slice none 0 0]) (cells' := [vi 0, vu 0, vi 0, Value.slice none 0 0, vi 0, Value.slice none 0 0]) ty30 z z er z (le_ z) z z ?_
    intro es cm et
    refine wY (ya z) z (nl (th (rt (At.thenR ?_))))
    obtain ⟨rfl, rfl⟩ := tup2 h
    have eu : Stp [12] (Lg.O0 A) w aw es := (tr_ (su_ r z) (tr_ (su_ n z) (tr_ (su_ c z) (su_ cm z))))
    exact At.res (.inl z) z (.cell z (et.runAg 0 [vi 0, vu 0, vi 0, Value.slice none 0 0, vi 0, Value.slice none 0 0] ty30 z z z) (.tmp z .nil)) ⟨Value.slice none 0 0, Value.slice none 0 0, z, (se_ eu z z), (Or.inl ⟨z, z⟩), (Or.inl ⟨z, z⟩)⟩
   ·refine WC.condF' z a2 (sk (th (sq (WC.drawH [13, 14, 15, 1001] [0, 1, 2, 3, 4, 5, 6, 7, 8, 9, 10, 11] aw 13 fmix z (by kernel_rfl) ?_))))
    intro ew d
    refine WD.y 0 z (by kernel_rfl) (fun _ _ _ => yf fo30_0 z) z (WD.y 1 z (by kernel_rfl) (fun f2 gg cn => have ex := T.st c z; have ey := ex.st d z; have ez := ey.st cn z; yl ty3 z z (ez.cell 0 _ z)) z (WD.y 2 z (by kernel_rfl) (fun _ _ _ => yf fo30_1 z) z (WD.y 3 z (by kernel_rfl) (fun f3 gh co => have eA := T.st c z; have eB := eA.st d z; have eC := eB.st co z; yl ty25 z z (eC.cell 1 _ z)) z (WD.y 4 z (by kernel_rfl) (fun _ _ _ => yf fo30_2 z) z (WD.y 5 z (by kernel_rfl) (fun f4 gi cp => have eD := T.st c z; have eE := eD.st d z; have eF := eE.st cp z; yL ty28 z z (eF.cells 2 [vi a0.Pos.Offset, (Value.slice ar au av)] z) z) z (WD.y 7 z (by kernel_rfl) (fun _ _ _ => yf fo30_3 z) z (WD.y 8 z (by kernel_rfl) (fun f5 gj cq => have eG := T.st c z; have eH := eG.st d z; have eI := eH.st cq z; yL ty28 z z (eI.cells 4 [vi a0.Neg.Offset, (Value.slice V W Z)] z) z) z ?_)))))))
    obtain ⟨eJ, h, cr⟩ := bnd h
    refine WD.join (σ := (Int × List UInt64 × Int × List UInt64 × Own × Nat × Value × Value)) (f' := 1) [11, 10, 9, 8, 7, 6, 5, 4, 3, 2, 1, 0] (fun x O' w' => (x.1, x.2.1, x.2.2.1, x.2.2.2.1) = eJ ∧ Stp [13, 14, 15, 1001] aw ew x.2.2.2.2.1 w' ∧ Blk 1002 x.2.2.2.2.1 w' x.2.2.2.2.2.1 30 [vi 0, vu 0, vi 0, Value.slice none 0 0, vi 0, Value.slice none 0 0] ∧ Sl Rep.u w' (frs x.2.2.2.2.1) x.2.2.2.2.2.2.1 x.2.1 ∧ Sl Rep.u w' (frs x.2.2.2.2.1) x.2.2.2.2.2.2.2 x.2.2.2.1 ∧ x.2.2.2.2.1 = O') (fun x => [(1, vi a1), (4, pt o 0), (7, Value.pointer (some ⟨x.2.2.2.2.2.1, 0, none⟩)), (35, ag [vi a0.Scale, vu a0.Zero, vi x.1, x.2.2.2.2.2.2.1, vi x.2.2.1, x.2.2.2.2.2.2.2])]) (fun bx => ?_) ?_
    ·refine WD.heavy2 6 11 z z (by kernel_rfl) ?_ ?_
     ·have cs := aX.i c z z
      have ct := cs.i d z z
      obtain ⟨j, cu, h⟩ := bnd h
      refine WL.call (vals := [ag [vi a0.Pos.Offset, (Value.slice ar au av)]]) kok83 z z (c_ref08_Trim (A := fun _ => True) (a0 := a0.Pos) (Sl.all ct) cu) ?_
      rintro fz bz ⟨eK, rfl, cv, eL⟩
      obtain ⟨ay, fo, bS, t⟩ := adoptE aw (fun k => 1) cv
      have bA : Sl Rep.u bz (frs ay) eK j.Counts := Sl.adoptF eL (fun k hk => ⟨hk, z⟩) bS
      refine nl (At.dq (su_ t z) ?_)
      obtain ⟨eM, h, cw⟩ := bnd h
      refine WD.join (σ := (List UInt64 × Int × List UInt64 × Own × Nat × Value × Value)) (f' := 1) [11, 10, 9, 8, 7, 6, 5, 4, 3, 2, 1, 0] (fun x O' w' => (x.1, x.2.1, x.2.2.1) = eM ∧ Stp [13, 14] ay bz x.2.2.2.1 w' ∧ Blk 1001 x.2.2.2.1 w' x.2.2.2.2.1 30 [vi 0, vu 0, vi 0, Value.slice none 0 0, vi 0, Value.slice none 0 0] ∧ Sl Rep.u w' (frs x.2.2.2.1) x.2.2.2.2.2.1 x.1 ∧ Sl Rep.u w' (frs x.2.2.2.1) x.2.2.2.2.2.2 x.2.2.1 ∧ x.2.2.2.1 = O') (fun x => [(1, vi a1), (4, pt o 0), (7, Value.pointer (some ⟨x.2.2.2.2.1, 0, none⟩)), (35, ag [vi a0.Scale, vu a0.Zero, vi j.Offset, x.2.2.2.2.2.1, vi x.2.1, x.2.2.2.2.2.2])]) (fun bB => ?_) ?_
      ·refine WD.heavy2 9 11 z z (by kernel_rfl) ?_ ?_
       ·have cx := ax.i c z z
        have cy := cx.i d z z
        have cz := cy.i t z z
        obtain ⟨aa, cA, h⟩ := bnd h
        refine WL.call (vals := [ag [vi a0.Neg.Offset, (Value.slice V W Z)]]) kok83 z z (c_ref08_Trim (A := fun _ => True) (a0 := a0.Neg) (Sl.all cz) cA) ?_
        rintro fA cC ⟨eN, rfl, cD, eO⟩
        obtain ⟨b4, fp, bT, ab⟩ := adoptE ay (fun k => 1) cD
        have bC : Sl Rep.u cC (frs b4) eN aa.Counts := Sl.adoptF eO (fun k hk => ⟨hk, z⟩) bT
        refine nl (At.dq (su_ ab z) ?_)
        have bD := bA.f ab z
        have cE := h
        obtain ⟨a3, a4, a5, rfl⟩ := bD.shape
        have h := cE
        have cF := h
        obtain ⟨a6, a7, a8, rfl⟩ := bC.shape
        have h := cF
        refine WD.y 10 z (by kernel_rfl) (fun _ _ _ => yb (vals := [(0, vi a0.Scale), (1, vu a0.Zero), (2, ag [vi j.Offset, (Value.slice a3 a4 a5)]), (3, ag [vi aa.Offset, (Value.slice a6 a7 a8)])]) (cells := [vi a0.Scale, vu a0.Zero, vi j.Offset, (Value.slice a3 a4 a5), vi aa.Offset, (Value.slice a6 a7 a8)]) (fe_ z) (by kernel_rfl)) z (WD.heavy 11 z (by kernel_rfl) (WL.alloc (O := b4) 13 [vi 0, vu 0, vi 0, Value.slice none 0 0, vi 0, Value.slice none 0 0] ty30 z z ?_))
        intro eP f6 fB C cG
        refine nl (At.dq (su_ C z) ?_)
        obtain ⟨eQ, D, cH⟩ := Blk.rlb 1001 rfl cG
        have cI := bD.f C z
        have cJ := cI.f D z
        have cK := bC.f C z
        have cL := cK.f D z
        refine WD.own (su_ D z) (WD.perm _ [11, 10, 9, 8, 7, 6, 5, 4, 3, 2, 1, 0] (by kernel_rfl) ?_)
        exact bB (j.Counts, aa.Offset, aa.Counts, eQ, eP, (Value.slice a3 a4 a5), (Value.slice a6 a7 a8)) _ _ _ ⟨some1 h, (tr_ (su_ ab z) (tr_ (su_ C z) (su_ D z))), cH, cJ, cL, z⟩ (.cons z (.cons z (.cons z (.cons z .nil))))
       ·try simp only [Option.bind_assoc] at h
        try simp only [Option.bind_some] at h
        refine WL.alloc (O := ay) 14 [vi 0, vu 0, vi 0, Value.slice none 0 0, vi 0, Value.slice none 0 0] ty30 z z ?_
        intro eR eS fC F cM
        refine nl (At.dq (su_ F z) (WD.heavy 9 z (by kernel_rfl) ?_))
        have cN := ax.i c z z
        have cO := cN.i d z z
        have cP := cO.i t z z
        have cQ := cP.i F z z
        obtain ⟨ac, cR, h⟩ := bnd h
        refine WL.call (vals := [ag [vi a0.Neg.Offset, (Value.slice V W Z)]]) kok83 z z (c_ref08_Trim (A := fun _ => True) (a0 := a0.Neg) (Sl.all cQ) cR) ?_
        rintro fD cS ⟨eT, rfl, cT, eU⟩
        obtain ⟨eV, fq, bU, G⟩ := adoptE eS (fun k => 1) cT
        have bE : Sl Rep.u cS (frs eV) eT ac.Counts := Sl.adoptF eU (fun k hk => ⟨hk, z⟩) bU
        refine nl (At.dq (su_ G z) ?_)
        have cU := bA.f F z
        have bF := cU.f G z
        have cV := h
        obtain ⟨a9, ba, bb, rfl⟩ := bF.shape
        have h := cV
        have cW := h
        obtain ⟨bc, bd, bf, rfl⟩ := bE.shape
        have h := cW
        refine WD.y 10 z (by kernel_rfl) (fun _ _ _ => yb (vals := [(0, vi a0.Scale), (1, vu a0.Zero), (2, ag [vi j.Offset, (Value.slice a9 ba bb)]), (3, ag [vi ac.Offset, (Value.slice bc bd bf)])]) (cells := [vi a0.Scale, vu a0.Zero, vi j.Offset, (Value.slice a9 ba bb), vi ac.Offset, (Value.slice bc bd bf)]) (fe_ z) (by kernel_rfl)) z ?_
        have cX := cM.st G z
        obtain ⟨eW, H, cY⟩ := Blk.rlb 1001 rfl cX
        have cZ := bF.f H z
        have c0 := bE.f H z
        refine WD.own (su_ H z) (WD.perm _ [11, 10, 9, 8, 7, 6, 5, 4, 3, 2, 1, 0] (by kernel_rfl) ?_)
        exact bB (j.Counts, ac.Offset, ac.Counts, eW, eR, (Value.slice a9 ba bb), (Value.slice bc bd bf)) _ _ _ ⟨some1 h, (tr_ (su_ F z) (tr_ (su_ G z) (su_ H z))), cY, cZ, c0, z⟩ (.cons z (.cons z (.cons z (.cons z .nil))))
      ·rintro ⟨eX, b5, eY, f7, b6, b7, b8⟩ _ fF ⟨rfl, aU, bG, bH, bI, rfl⟩
       replace h := cw
       try dsimp only at h aU bG bH bI
       refine (show WD _ _ _ _ _ _ _ _ [(1, vi a1), (4, pt o 0), (7, pt b6 0), (35, ag [vi a0.Scale, vu a0.Zero, vi j.Offset, b7, vi b5, b8])] _ _ from ?_)
       obtain ⟨eZ, I, c1⟩ := Blk.rlb 1002 rfl bG
       have c2 := bH.f I z
       have c3 := bI.f I z
       refine WD.own (su_ I z) (WD.perm _ [11, 10, 9, 8, 7, 6, 5, 4, 3, 2, 1, 0] (by kernel_rfl) ?_)
       exact bx (j.Offset, eX, b5, eY, eZ, b6, b7, b8) _ _ _ ⟨some1 h, (tr_ (su_ t z) (tr_ (su_ aU z) (su_ I z))), c1, c2, c3, z⟩ (.cons z (.cons z (.cons z (.cons z .nil))))
     ·try simp only [Option.bind_assoc] at h
      try simp only [Option.bind_some] at h
      refine WL.alloc (O := aw) 15 [vi 0, vu 0, vi 0, Value.slice none 0 0, vi 0, Value.slice none 0 0] ty30 z z ?_
      intro e0 e1 fG J c4
      refine nl (At.dq (su_ J z) (WD.heavy 6 z (by kernel_rfl) ?_))
      have c5 := aX.i c z z
      have c6 := c5.i d z z
      have c7 := c6.i J z z
      obtain ⟨ad, c8, h⟩ := bnd h
      refine WL.call (vals := [ag [vi a0.Pos.Offset, (Value.slice ar au av)]]) kok83 z z (c_ref08_Trim (A := fun _ => True) (a0 := a0.Pos) (Sl.all c7) c8) ?_
      rintro fH c9 ⟨e2, rfl, da, e5⟩
      obtain ⟨b9, fr, bW, K⟩ := adoptE e1 (fun k => 1) da
      have db : Sl Rep.u c9 (frs b9) e2 ad.Counts := Sl.adoptF e5 (fun k hk => ⟨hk, z⟩) bW
      refine nl (At.dq (su_ K z) (WD.heavy 9 z (by kernel_rfl) ?_))
      have dc := ax.i c z z
      have dd := dc.i d z z
      have de := dd.i J z z
      have df := de.i K z z
      obtain ⟨ae, dg, h⟩ := bnd h
      refine WL.call (vals := [ag [vi a0.Neg.Offset, (Value.slice V W Z)]]) kok83 z z (c_ref08_Trim (A := fun _ => True) (a0 := a0.Neg) (Sl.all df) dg) ?_
      rintro fI dh ⟨e6, rfl, di, e7⟩
      obtain ⟨e8, fs, bX, L⟩ := adoptE b9 (fun k => 1) di
      have bJ : Sl Rep.u dh (frs e8) e6 ae.Counts := Sl.adoptF e7 (fun k hk => ⟨hk, z⟩) bX
      refine nl (At.dq (su_ L z) ?_)
      have bK := db.f L z
      have dj := h
      obtain ⟨bg, bh, bi, rfl⟩ := bK.shape
      have h := dj
      have dk := h
      obtain ⟨bj, bk, bl, rfl⟩ := bJ.shape
      have h := dk
      refine WD.y 10 z (by kernel_rfl) (fun _ _ _ => yb (vals := [(0, vi a0.Scale), (1, vu a0.Zero), (2, ag [vi ad.Offset, (Value.slice bg bh bi)]), (3, ag [vi ae.Offset, (Value.slice bj bk bl)])]) (cells := [vi a0.Scale, vu a0.Zero, vi ad.Offset, (Value.slice bg bh bi), vi ae.Offset, (Value.slice bj bk bl)]) (fe_ z) (by kernel_rfl)) z ?_
      have dl := c4.st K z
      have dm := dl.st L z
      obtain ⟨e9, M, dn⟩ := Blk.rlb 1002 rfl dm
      have dp := bK.f M z
      have dr := bJ.f M z
      refine WD.own (su_ M z) (WD.perm _ [11, 10, 9, 8, 7, 6, 5, 4, 3, 2, 1, 0] (by kernel_rfl) ?_)
      exact bx (ad.Offset, ad.Counts, ae.Offset, ae.Counts, e9, e0, (Value.slice bg bh bi), (Value.slice bj bk bl)) _ _ _ ⟨some1 h, (tr_ (su_ J z) (tr_ (su_ K z) (tr_ (su_ L z) (su_ M z)))), dn, dp, dr, z⟩ (.cons z (.cons z (.cons z (.cons z .nil))))
    ·rintro ⟨bL, fa, az, fb, bm, af, fc, fd⟩ _ fJ ⟨rfl, ah, ca, aA, aC, rfl⟩
     replace h := cr
     try dsimp only at h ah ca aA aC
     refine (show WD _ _ _ _ _ _ _ _ [(1, vi a1), (4, pt o 0), (7, pt af 0), (35, ag [vi a0.Scale, vu a0.Zero, vi bL, fc, vi az, fd])] _ _ from ?_)
     refine WD.phase [1002] [0, 1, 2, 3, 4, 5, 6, 7, 8, 9, 10, 11, 12] (by kernel_rfl) (by kernel_rfl) (WD.heavy 12 z (by kernel_rfl) ?_)
     have ds := h
     obtain ⟨bn, bo, bp, rfl⟩ := aA.shape
     have h := ds
     have dt := h
     obtain ⟨bq, br, bs, rfl⟩ := aC.shape
     have h := dt
     refine WL.store (v := ag [vi a0.Scale, vu a0.Zero, vi bL, (Value.slice bn bo bp), vi az, (Value.slice bq br bs)]) (cells' := [vi a0.Scale, vu a0.Zero, vi bL, (Value.slice bn bo bp), vi az, (Value.slice bq br bs)]) ty30 z z ca z (le_ z) z z ?_
     intro bM m du
     refine nl (At.dq (su_ m z) (WD.done_ (by kernel_rfl) (th (sq (sq (rg (wY (ya z) z (nl (th ?_)))))))))
     refine WC.block ?_
     obtain ⟨cb, h, dw⟩ := flow1 h
     obtain ⟨cc, h⟩ := loop_some h
     refine WC.joinB 0 (σ := (Int × Int × List UInt64 × Int × List UInt64 × Own × Value × Value)) (fun x w' => cb = .go (x.1, x.2.1, x.2.2.1, x.2.2.2.1, x.2.2.2.2.1) ∧ Stp [1002] bm bM x.2.2.2.2.2.1 w' ∧ Sl Rep.u w' (frs x.2.2.2.2.2.1) x.2.2.2.2.2.2.1 x.2.2.1 ∧ Sl Rep.u w' (frs x.2.2.2.2.2.1) x.2.2.2.2.2.2.2 x.2.2.2.2.1 ∧ Blk 1002 x.2.2.2.2.2.1 w' af 30 [vi x.1, vu a0.Zero, vi x.2.1, x.2.2.2.2.2.2.1, vi x.2.2.2.1, x.2.2.2.2.2.2.2]) (fun x => [(4, pt o 0), (7, pt af 0)]) ?_ ?_
     ·have dx := aA.f m z
      have dy := aC.f m z
      refine WC.loop (σ := (Int × Int × List UInt64 × Int × List UInt64 × Int × Own × Value × Value)) (fun x k w' => loopN k (ref08_Down_lp1 a1) (x.1, x.2.1, x.2.2.1, x.2.2.2.1, x.2.2.2.2.1, x.2.2.2.2.2.1) = some cb ∧ Stp [1002] bm bM x.2.2.2.2.2.2.1 w' ∧ Sl Rep.u w' (frs x.2.2.2.2.2.2.1) x.2.2.2.2.2.2.2.1 x.2.2.1 ∧ Sl Rep.u w' (frs x.2.2.2.2.2.2.1) x.2.2.2.2.2.2.2.2 x.2.2.2.2.1 ∧ Blk 1002 x.2.2.2.2.2.2.1 w' af 30 [vi x.1, vu a0.Zero, vi x.2.1, x.2.2.2.2.2.2.2.1, vi x.2.2.2.1, x.2.2.2.2.2.2.2.2]) (fun x => [(1, vi a1), (4, pt o 0), (7, pt af 0), (8, vi x.2.2.2.2.2.1)]) (a0.Scale, bL, fa, az, fb, 0, bm, (Value.slice bn bo bp), (Value.slice bq br bs)) cc (.cons z (.cons z (.cons z (.cons z .nil)))) ⟨h, (sr_ _ _ _), dx, dy, du⟩ ?_
      rintro ⟨U, aD, cd, aE, ce, fe, bt, bu, bw⟩ cc fK ⟨h, ai, aF, aG, l⟩
      obtain ⟨ff, f8, rfl, h, bO⟩ := rnd1 h
      unfold ref08_Down_lp1 at h
      try dsimp only at h ai aF aG l
      refine (show WC _ _ _ _ [(1, vi a1), (4, pt o 0), (7, pt af 0), (8, vi fe)] _ from ?_)
      refine sq (sq (rg (wY (ym z) z (wY (ym z) z (wY (Y.lss_i z z) z (nl (th ?_)))))))
      rcases cnd h with ⟨aH, h⟩ | ⟨aH, h⟩
      ·refine WC.condT' z aH (sk (th (sq (WC.block (WC.drawH [] [0, 1, 2, 3, 4, 5, 6, 7, 8, 9, 10, 11] bt 13 fmix z (by kernel_rfl) ?_)))))
       intro fL e
       refine WD.y 0 z (by kernel_rfl) (fun _ _ _ => yf fo30_0 z) z (WD.y 1 z (by kernel_rfl) (fun fN f9 cf => have dz := l.st e z; have dA := dz.st cf z; yl ty3 z z (dA.cell 0 _ z)) z (WD.y 2 z (by kernel_rfl) (fun _ _ _ => Y.sub_i z z) z (WD.y 3 z (by kernel_rfl) (fun _ _ _ => yf fo30_1 z) z (WD.y 4 z (by kernel_rfl) (fun fO ga cg => have dB := l.st e z; have dC := dB.st cg z; yl ty25 z z (dC.cell 1 _ z)) z (WD.y 5 z (by kernel_rfl) (fun _ _ _ => yf fo30_2 z) z (WD.y 6 z (by kernel_rfl) (fun fP gb ch => have dD := l.st e z; have dE := dD.st ch z; yL ty28 z z (dE.cells 2 [vi aD, bu] z) z) z (WD.y 8 z (by kernel_rfl) (fun _ _ _ => yf fo30_3 z) z (WD.y 9 z (by kernel_rfl) (fun fQ gc ci => have dF := l.st e z; have dG := dF.st ci z; yL ty28 z z (dG.cells 4 [vi aE, bw] z) z) z (WD.heavy 7 z (by kernel_rfl) ?_)))))))))
       have dH := aF.f e z
       obtain ⟨p, dI, h⟩ := bnd h
       refine WL.call (vals := [ag [vi aD, bu]]) kok84 z z (c_ref08_once (A := fun _ => True) (a0 := (api_Side.mk aD cd)) (Sl.all dH) dI) ?_
       rintro fR dJ ⟨fg, rfl, dK, fh⟩
       obtain ⟨cj, ft, bY, P⟩ := adoptE bt (fun k => 1) dK
       have dL : Sl Rep.u dJ (frs cj) fg p.Counts := Sl.adoptF fh (fun k hk => ⟨hk, z⟩) bY
       refine nl (At.dq (su_ P z) (WD.heavy 10 z (by kernel_rfl) ?_))
       have dM := aG.f e z
       have dN := dM.f P z
       obtain ⟨q, dO, h⟩ := bnd h
       refine WL.call (vals := [ag [vi aE, bw]]) kok84 z z (c_ref08_once (A := fun _ => True) (a0 := (api_Side.mk aE ce)) (Sl.all dN) dO) ?_
       rintro fT dP ⟨fi, rfl, dQ, fj⟩
       obtain ⟨ck, fu, bZ, Q⟩ := adoptE cj (fun k => 1) dQ
       have bP : Sl Rep.u dP (frs ck) fi q.Counts := Sl.adoptF fj (fun k hk => ⟨hk, z⟩) bZ
       refine nl (At.dq (su_ Q z) ?_)
       have bQ := dL.f Q z
       have dR := h
       obtain ⟨aj, ak, al, rfl⟩ := bQ.shape
       have h := dR
       have dS := h
       obtain ⟨am, an, ao, rfl⟩ := bP.shape
       have h := dS
       refine WD.y 11 z (by kernel_rfl) (fun _ _ _ => yb (vals := [(0, vi (w64 (U - 1))), (1, vu a0.Zero), (2, ag [vi p.Offset, (Value.slice aj ak al)]), (3, ag [vi q.Offset, (Value.slice am an ao)])]) (cells := [vi (w64 (U - 1)), vu a0.Zero, vi p.Offset, (Value.slice aj ak al), vi q.Offset, (Value.slice am an ao)]) (fe_ z) (by kernel_rfl)) z (WD.phase [1002] [0, 1, 2, 3, 4, 5, 6, 7, 8, 9, 10, 11, 12] (by kernel_rfl) (by kernel_rfl) (WD.heavy 12 z (by kernel_rfl) ?_))
       have dT := l.st e z
       have dU := dT.st P z
       have dV := dU.st Q z
       refine WL.store (v := ag [vi (w64 (U - 1)), vu a0.Zero, vi p.Offset, (Value.slice aj ak al), vi q.Offset, (Value.slice am an ao)]) (cells' := [vi (w64 (U - 1)), vu a0.Zero, vi p.Offset, (Value.slice aj ak al), vi q.Offset, (Value.slice am an ao)]) ty30 z z dV z (le_ z) z z ?_
       intro fU S dW
       refine nl (At.dq (su_ S z) (WD.done_ (by kernel_rfl) (At.inBlock (th (rg (wY (ym z) z (wY (Y.add_i z z) z ?_)))))))
       obtain ⟨fk, dX, h⟩ := lt1 h
       refine WL.yE (ya z) (congrArg vi dX.symm) z (nl ?_)
       have dY := bQ.f S z
       have dZ := bP.f S z
       exact At.round (w64 (U - 1), p.Offset, p.Counts, q.Offset, q.Counts, fk, ck, (Value.slice aj ak al), (Value.slice am an ao)) ff (Nat.lt_succ_self _) ⟨next1 h bO, (tr_ (su_ ai z) (tr_ (su_ e z) (tr_ (su_ P z) (tr_ (su_ Q z) (su_ S z))))), dY, dZ, dW⟩ (.cons z (.cons z (.cons z (.cons z .nil))))
      ·refine WC.condF' z aH (WC.exit (At.thenX (At.loopX ?_)))
       exact At.hitB (σ := (Int × Int × List UInt64 × Int × List UInt64 × Own × Value × Value)) (U, aD, cd, aE, ce, bt, bu, bw) ⟨brk1 h bO, (su_ ai z), aF, aG, l⟩ (.cons z (.cons z .nil))
     ·rintro ⟨aI, aJ, gd, aK, ge, fl, fm, fn⟩ fV ⟨rfl, ap, aL, aM, bR⟩
      replace h := flowK_go dw
      try dsimp only at h ap aL aM bR
      refine (show At _ _ _ [(4, pt o 0), (7, pt af 0)] _ from ?_)
      refine At.inBlockHit (th (sq (rg (wY (yL ty30 z z (bR.cells 0 [vi aI, vu a0.Zero, vi aJ, fm, vi aK, fn] z) z) z ?_))))
      have d0 := h
      obtain ⟨aN, aO, aP, rfl⟩ := aL.shape
      have h := d0
      have d1 := h
      obtain ⟨aQ, aR, aS, rfl⟩ := aM.shape
      have h := d1
      have d2 := aW.st c z
      have d3 := d2.st d z
      have d4 := d3.st ah z
      have d5 := d4.st m z
      have d6 := d5.st ap z
      refine WL.store (v := ag [vi aI, vu a0.Zero, vi aJ, (Value.slice aN aO aP), vi aK, (Value.slice aQ aR aS)]) (cells' := [vi aI, vu a0.Zero, vi aJ, (Value.slice aN aO aP), vi aK, (Value.slice aQ aR aS)]) ty30 z z d6 z (le_ z) z z ?_
      intro d7 aq d8
      refine wY (ya z) z (nl (th (rt ?_)))
      obtain ⟨rfl, rfl⟩ := tup2 h
      have aT : Stp [12, 13, 14, 15, 1001, 1002] (Lg.O0 A) w fl d7 := (tr_ (su_ r z) (tr_ (su_ n z) (tr_ (su_ c z) (tr_ (su_ d z) (tr_ (su_ ah z) (tr_ (su_ m z) (tr_ (su_ ap z) (su_ aq z))))))))
      have d9 := aL.f aq z
      have ea := aM.f aq z
      exact At.res (.inl z) z (.cell z (d8.runAg 0 [vi aI, vu a0.Zero, vi aJ, (Value.slice aN aO aP), vi aK, (Value.slice aQ aR aS)] ty30 z z z) (.tmp z .nil)) ⟨(Value.slice aN aO aP), (Value.slice aQ aR aS), z, (se_ aT z z), (Sl.outF d9 aT low0), (Sl.outF ea aT low0)⟩
theorem c_ref08_Fit {A : Nat → Prop} {v0_3 : Value} {v0_5 : Value} {a0 : api_Hist} {a1 : Int} {w : World} (hs0_3 : Sl Rep.u w A v0_3 a0.Pos.Counts) (hs0_5 : Sl Rep.u w A v0_5 a0.Neg.Counts) {r0 : api_Hist} {r1 : Int} (h : ref08_Fit a0 a1 = some (r0, r1)) : Rets Try.prog 78 [ag [vi a0.Scale, vu a0.Zero, vi a0.Pos.Offset, v0_3, vi a0.Neg.Offset, v0_5], vi a1] w (fun v w' => ∃ (ai : Value) (aj : Value), v = Value.tuple (List.toArray [ag [vi r0.Scale, vu r0.Zero, vi r0.Pos.Offset, ai, vi r0.Neg.Offset, aj], vi r1]) ∧ Ext w w' ∧ Sl Rep.u w' (fun k => w.heap.size ≤ k) ai r0.Pos.Counts ∧ Sl Rep.u w' (fun k => w.heap.size ≤ k) aj r0.Neg.Counts) := by
 unfold ref08_Fit at h
 refine Rets.enter Try.func78 z z ?_
 have ak : Sl Rep.u w (imm (Lg.O0 A)) v0_3 a0.Pos.Counts := (Sl.start hs0_3)
 have al : Sl Rep.u w (imm (Lg.O0 A)) v0_5 a0.Neg.Counts := (Sl.start hs0_5)
 refine (show WC _ _ _ _ [(0, ag [vi a0.Scale, vu a0.Zero, vi a0.Pos.Offset, v0_3, vi a0.Neg.Offset, v0_5]), (1, vi a1)] _ from ?_)
 refine sq (rg ?_)
 have a2 := h
 obtain ⟨M, P, Q, rfl⟩ := ak.shape
 have h := a2
 have a3 := h
 obtain ⟨S, T, U, rfl⟩ := al.shape
 have h := a3
 refine WL.box (O := (Lg.O0 A)) 11 [vi a0.Scale, vu a0.Zero, vi a0.Pos.Offset, (Value.slice M P Q), vi a0.Neg.Offset, (Value.slice S T U)] z z z ?_
 intro ad bp bC n a4
 refine WL.alloc (O := bp) 12 [vi 0, vu 0, vi 0, Value.slice none 0 0, vi 0, Value.slice none 0 0] ty30 z z ?_
 intro F bq bD l W
 refine wY (ya z) z (nl (th (sq (sq (rg ?_)))))
 have am := a4.st l z
 refine wY (yL ty30 z z (am.cells 0 [vi a0.Scale, vu a0.Zero, vi a0.Pos.Offset, (Value.slice M P Q), vi a0.Neg.Offset, (Value.slice S T U)] z) z) z ?_
 have a5 := ak.i n z z
 have an := a5.i l z z
 have a6 := al.i n z z
 have ao := a6.i l z z
 obtain ⟨bJ, a7, h⟩ := bnd h
 refine WL.call (vals := [ag [vi a0.Scale, vu a0.Zero, vi a0.Pos.Offset, (Value.slice M P Q), vi a0.Neg.Offset, (Value.slice S T U)]]) kok82 z z (c_ref08_Check (A := fun _ => True) (a0 := a0) (Sl.all an) (Sl.all ao) a7) ?_
 rintro bE ap ⟨rfl, a8⟩
 obtain ⟨ae, br, bs, d⟩ := adoptE bq (fun k => 1) a8
 refine wY (ya z) z (nl (th (sq (rg (wY (ym z) z (wY (Y.neq_i z z) z (nl (th ?_))))))))
 rcases cnd h with ⟨Z, h⟩ | ⟨Z, h⟩
 ·refine WC.condT' z Z (sq (rg (wY (yb (vals := []) (cells := [vi 0, vu 0, vi 0, Value.slice none 0 0, vi 0, Value.slice none 0 0]) (fe_ z) (by kernel_rfl)) z (wY (ym z) z ?_))))
  have a9 := W.st d z
  refine WL.store (v := ag [vi 0, vu 0, vi 0, Value.slice none 0 0, vi 0, Value.slice none 0 0]) (cells' := [vi 0, vu 0, vi 0, Value.slice none 0 0, vi 0, Value.slice none 0 0]) ty30 z z a9 z (le_ z) z z ?_
  intro ba az bb
  refine wY (ya z) z (nl (th (rt (At.thenR ?_))))
  obtain ⟨rfl, rfl⟩ := tup2 h
  have bc : Stp [12] (Lg.O0 A) w ae ba := (tr_ (su_ n z) (tr_ (su_ l z) (tr_ (su_ d z) (su_ az z))))
  exact At.res (.inl z) z (.cell z (bb.runAg 0 [vi 0, vu 0, vi 0, Value.slice none 0 0, vi 0, Value.slice none 0 0] ty30 z z z) (.tmp z .nil)) ⟨Value.slice none 0 0, Value.slice none 0 0, z, (se_ bc z z), (Or.inl ⟨z, z⟩), (Or.inl ⟨z, z⟩)⟩
 ·refine WC.condF' z Z (sk (th (sq (sq (rg (wY (ya z) z (nl (th (WC.block ?_)))))))))
  obtain ⟨aU, h, aq⟩ := flow1 h
  obtain ⟨aW, h⟩ := loop_some h
  refine WC.joinB 0 (σ := Own) (fun x w' => aU = .go () ∧ Stp [13] ae ap x w') (fun x => [(4, pt F 0)]) ?_ ?_
  ·refine WC.loop (σ := (Int × Own)) (fun x k w' => loopN k (ref08_Fit_lp1 a0 a1) x.1 = some aU ∧ Stp [13] ae ap x.2 w') (fun x => [(1, vi a1), (2, pt ad 0), (4, pt F 0), (7, vi x.1)]) (0, ae) aW (.cons z (.cons z (.cons z (.cons z .nil)))) ⟨h, (sr_ _ _ _)⟩ ?_
   rintro ⟨G, aX⟩ aW bF ⟨h, e⟩
   obtain ⟨bt, bK, rfl, h, aa⟩ := rnd1 h
   unfold ref08_Fit_lp1 at h
   try dsimp only at h e
   refine (show WC _ _ _ _ [(1, vi a1), (2, pt ad 0), (4, pt F 0), (7, vi G)] _ from ?_)
   refine sq (sq (rg (wY (ym z) z (wY (yf fo30_0 z) z ?_))))
   have bd := am.st d z
   have ar := bd.st e z
   refine wY (yl ty3 z z (ar.cell 0 _ z)) z (wY (Y.sub_i z z) z (wY (Y.leq_i z z) z (nl (th ?_))))
   rcases cnd h with ⟨ab, h⟩ | ⟨ab, h⟩
   ·refine WC.condT' z ab (sk (th (sq (WC.block (sq (rg (wY (yL ty30 z z (ar.cells 0 [vi a0.Scale, vu a0.Zero, vi a0.Pos.Offset, (Value.slice M P Q), vi a0.Neg.Offset, (Value.slice S T U)] z) z) z (wY (ym z) z ?_))))))))
    have bf := an.i d z z
    have bg := bf.i e z z
    have bh := ao.i d z z
    have bi := bh.i e z z
    obtain ⟨⟨c, bL⟩, bj, h⟩ := bnd h
    refine WL.call (vals := [ag [vi a0.Scale, vu a0.Zero, vi a0.Pos.Offset, (Value.slice M P Q), vi a0.Neg.Offset, (Value.slice S T U)], vi G]) kok54 z z (c_ref08_Down (A := fun _ => True) (a0 := a0) (Sl.all bg) (Sl.all bi) bj) ?_
    rintro bG au ⟨bu, bw, rfl, bk, bx, bz⟩
    obtain ⟨av, bA, V, H⟩ := adoptE aX (fun k => 1) bk
    have bl : Sl Rep.u au (frs av) bu c.Pos.Counts := Sl.adoptF bx (fun k hk => ⟨hk, z⟩) V
    have bm : Sl Rep.u au (frs av) bw c.Neg.Counts := Sl.adoptF bz (fun k hk => ⟨hk, z⟩) V
    refine wY (ym z) z (wY (yx z z) z (wY (yx z z) z (WL.alloc (O := av) 13 [vi 0, vu 0, vi 0, Value.slice none 0 0, vi 0, Value.slice none 0 0] ty30 z z ?_)))
    intro aY aZ bH o bn
    have aw := bl.f o z
    have bo := h
    obtain ⟨p, q, r, rfl⟩ := aw.shape
    have h := bo
    have ac := bm.f o z
    have aA := h
    obtain ⟨t, C, m, rfl⟩ := ac.shape
    have h := aA
    refine WL.store (v := ag [vi c.Scale, vu c.Zero, vi c.Pos.Offset, (Value.slice p q r), vi c.Neg.Offset, (Value.slice t C m)]) (cells' := [vi c.Scale, vu c.Zero, vi c.Pos.Offset, (Value.slice p q r), vi c.Neg.Offset, (Value.slice t C m)]) ty30 z z bn z (le_ z) z z ?_
    intro aC j I
    refine wY (ya z) z (nl (th (sq (rg (wY (yf fo30_2 z) z (wY (yf fo28_1 z) z (wY (yl ty26 z z (I.cell 3 _ z)) z ?_)))))))
    have af := aw.f j z
    refine wY (Y.len ty26 z af) z (wY (ym z) z (wY (Y.leq_i z z) z (wY (ym z) z ?_)))
    refine WL.cut 7 (σ := Unit) (fun _ w' => aC = w') (fun _ => [(1, vi a1), (2, pt ad 0), (4, pt F 0), (7, vi G), (8, pt aY 0), (42, vB ((decide ((c.Pos.Counts.length : Int) ≤ a1)) && (decide ((c.Neg.Counts.length : Int) ≤ a1))))]) ?_ ?_
    ·refine WL.part 35 z (fun J => ?_) (fun J => ?_)
     ·refine ug z z (wY (yf fo30_3 z) z (ug z z (wY (yf fo28_1 z) z (ug z z (wY (yl ty26 z z (I.cell 5 _ z)) z (ug z z ?_))))))
      have aD := ac.f j z
      refine wY (Y.len ty26 z aD) z (ug z z (wY (ym z) z (ug z z (wY (Y.leq_i z z) z (wY (Y.pick (b := true) z z) z (WL.ren (v' := vB ((decide ((c.Pos.Counts.length : Int) ≤ a1)) && (decide ((c.Neg.Counts.length : Int) ≤ a1)))) 42 z (congrArg vB (andT J)) ?_))))))
      exact nl (At.join () z (.cons z (.cons z (.cons z (.cons z (.cons z (.cons z .nil)))))))
     ·refine WL.gS z z z z (WL.gS z z z z (WL.gS z z z z (WL.gS z z z z (WL.gS z z z z (WL.gS z z z z (wY (Y.pick (b := false) z z) z (WL.ren (v' := vB ((decide ((c.Pos.Counts.length : Int) ≤ a1)) && (decide ((c.Neg.Counts.length : Int) ≤ a1)))) 42 z (congrArg vB (andF J)) ?_)))))))
      exact nl (At.join () z (.cons z (.cons z (.cons z (.cons z (.cons z (.cons z .nil)))))))
    ·rintro _ _ rfl
     refine (show WL _ _ _ _ _ [(1, vi a1), (2, pt ad 0), (4, pt F 0), (7, vi G), (8, pt aY 0), (42, vB ((decide ((c.Pos.Counts.length : Int) ≤ a1)) && (decide ((c.Neg.Counts.length : Int) ≤ a1))))] _ from ?_)
     refine nl (th ?_)
     rcases cnd h with ⟨K, h⟩ | ⟨K, h⟩
     ·refine WC.condT' z K (sq (rg (wY (yL ty30 z z (I.cells 0 [vi c.Scale, vu c.Zero, vi c.Pos.Offset, (Value.slice p q r), vi c.Neg.Offset, (Value.slice t C m)] z) z) z ?_)))
      have aE := W.st d z
      have aF := aE.st e z
      have aG := aF.st H z
      have aH := aG.st o z
      have aI := aH.st j z
      refine WL.store (v := ag [vi c.Scale, vu c.Zero, vi c.Pos.Offset, (Value.slice p q r), vi c.Neg.Offset, (Value.slice t C m)]) (cells' := [vi c.Scale, vu c.Zero, vi c.Pos.Offset, (Value.slice p q r), vi c.Neg.Offset, (Value.slice t C m)]) ty30 z z aI z (le_ z) z z ?_
      intro aJ D aK
      refine wY (ya z) z (nl (th (rt (At.inBlockR (At.thenR (At.loopR ?_))))))
      have h := outr1 h aa aq
      refine At.joinBR (At.inBlockR (At.thenR ?_))
      obtain ⟨rfl, rfl⟩ := tup2 h
      have L : Stp [12, 13] (Lg.O0 A) w aZ aJ := (tr_ (su_ n z) (tr_ (su_ l z) (tr_ (su_ d z) (tr_ (su_ e z) (tr_ (su_ H z) (tr_ (su_ o z) (tr_ (su_ j z) (su_ D z))))))))
      have aL := af.f D z
      have aM := ac.f j z
      have aN := aM.f D z
      exact At.res (.inl z) z (.cell z (aK.runAg 0 [vi c.Scale, vu c.Zero, vi c.Pos.Offset, (Value.slice p q r), vi c.Neg.Offset, (Value.slice t C m)] ty30 z z z) (.tmp z .nil)) ⟨(Value.slice p q r), (Value.slice t C m), z, (se_ L z z), (Sl.outF aL L low0), (Sl.outF aN L low0)⟩
     ·refine WC.condF' z K (sk (At.inBlock (th (rg (wY (ym z) z (wY (Y.add_i z z) z ?_))))))
      obtain ⟨aO, ax, h⟩ := lt1 h
      refine WL.yE (ya z) (congrArg vi ax.symm) z (nl ?_)
      exact At.round (aO, aZ) bt (Nat.lt_succ_self _) ⟨next1 h aa, (tr_ (su_ e z) (tr_ (su_ H z) (tr_ (su_ o z) (su_ j z))))⟩ (.cons z (.cons z (.cons z (.cons z .nil))))
   ·refine WC.condF' z ab (WC.exit (At.thenX (At.loopX ?_)))
    exact At.hitB (σ := Own) aX ⟨brk1 h aa, (su_ e z)⟩ (.cons z .nil)
  ·rintro bB bI ⟨rfl, ah⟩
   replace h := flowK_go aq
   refine (show At _ _ _ [(4, pt F 0)] _ from ?_)
   refine At.inBlockHit (th (sq (rg (wY (yb (vals := []) (cells := [vi 0, vu 0, vi 0, Value.slice none 0 0, vi 0, Value.slice none 0 0]) (fe_ z) (by kernel_rfl)) z ?_))))
   have aP := W.st d z
   have aQ := aP.st ah z
   refine WL.store (v := ag [vi 0, vu 0, vi 0, Value.slice none 0 0, vi 0, Value.slice none 0 0]) (cells' := [vi 0, vu 0, vi 0, Value.slice none 0 0, vi 0, Value.slice none 0 0]) ty30 z z aQ z (le_ z) z z ?_
   intro aR ay aS
   refine wY (ya z) z (nl (th (rt ?_)))
   obtain ⟨rfl, rfl⟩ := tup2 h
   have aT : Stp [12, 13] (Lg.O0 A) w bB aR := (tr_ (su_ n z) (tr_ (su_ l z) (tr_ (su_ d z) (tr_ (su_ ah z) (su_ ay z)))))
   exact At.res (.inl z) z (.cell z (aS.runAg 0 [vi 0, vu 0, vi 0, Value.slice none 0 0, vi 0, Value.slice none 0 0] ty30 z z z) (.tmp z .nil)) ⟨Value.slice none 0 0, Value.slice none 0 0, z, (se_ aT z z), (Or.inl ⟨z, z⟩), (Or.inl ⟨z, z⟩)⟩
theorem c_ref15_Fits {A : Nat → Prop} {v0_1 : Value} {v0_13 : Value} {v0_15 : Value} {a0 : api_Point} {a1 : Int} {a2 : Int} {w : World} (hs0_1 : Sl rep_api_Pair w A v0_1 a0.Attrs) (hs0_13 : Sl Rep.u w A v0_13 a0.Hist.Pos.Counts) (hs0_15 : Sl Rep.u w A v0_15 a0.Hist.Neg.Counts) {r0 : api_Point} {r1 : Int} (h : ref15_Fits a0 a1 a2 = some (r0, r1)) : Rets Try.prog 48 [ag [vs a0.Name, v0_1, vi a0.Kind, vi a0.Temp, vB a0.Mono, vi a0.Start, vi a0.Time, vi a0.Int_, vu a0.Re, vu a0.Im, vi a0.Hist.Scale, vu a0.Hist.Zero, vi a0.Hist.Pos.Offset, v0_13, vi a0.Hist.Neg.Offset, v0_15, vi a0.Flags], vi a1, vi a2] w (fun v w' => ∃ (an : Value) (ak : Value) (al : Value), v = Value.tuple (List.toArray [ag [vs r0.Name, an, vi r0.Kind, vi r0.Temp, vB r0.Mono, vi r0.Start, vi r0.Time, vi r0.Int_, vu r0.Re, vu r0.Im, vi r0.Hist.Scale, vu r0.Hist.Zero, vi r0.Hist.Pos.Offset, ak, vi r0.Hist.Neg.Offset, al, vi r0.Flags], vi r1]) ∧ Ext w w' ∧ Sl rep_api_Pair w' (fun k => A k ∨ w.heap.size ≤ k) an r0.Attrs ∧ Sl Rep.u w' (fun k => A k ∨ w.heap.size ≤ k) ak r0.Hist.Pos.Counts ∧ Sl Rep.u w' (fun k => A k ∨ w.heap.size ≤ k) al r0.Hist.Neg.Counts) := by
 unfold ref15_Fits at h
 refine Rets.enter Try.func48 z z ?_
 have ao : Sl rep_api_Pair w (imm (Lg.O0 A)) v0_1 a0.Attrs := (Sl.start hs0_1)
 have ap : Sl Rep.u w (imm (Lg.O0 A)) v0_13 a0.Hist.Pos.Counts := (Sl.start hs0_13)
 have aq : Sl Rep.u w (imm (Lg.O0 A)) v0_15 a0.Hist.Neg.Counts := (Sl.start hs0_15)
 refine (show WC _ _ _ _ [(0, ag [vs a0.Name, v0_1, vi a0.Kind, vi a0.Temp, vB a0.Mono, vi a0.Start, vi a0.Time, vi a0.Int_, vu a0.Re, vu a0.Im, vi a0.Hist.Scale, vu a0.Hist.Zero, vi a0.Hist.Pos.Offset, v0_13, vi a0.Hist.Neg.Offset, v0_15, vi a0.Flags]), (1, vi a1), (2, vi a2)] _ from ?_)
 refine sq (rg ?_)
 have bn := h
 obtain ⟨m, n, o, rfl⟩ := ao.shape
 have h := bn
 have bo := h
 obtain ⟨F, G, H, rfl⟩ := ap.shape
 have h := bo
 have bp := h
 obtain ⟨I, J, K, rfl⟩ := aq.shape
 have h := bp
 refine WL.box (O := (Lg.O0 A)) 11 [vs a0.Name, (Value.slice m n o), vi a0.Kind, vi a0.Temp, vB a0.Mono, vi a0.Start, vi a0.Time, vi a0.Int_, vu a0.Re, vu a0.Im, vi a0.Hist.Scale, vu a0.Hist.Zero, vi a0.Hist.Pos.Offset, (Value.slice F G H), vi a0.Hist.Neg.Offset, (Value.slice I J K), vi a0.Flags] z z z ?_
 intro cb bT b5 l bq
 refine WL.alloc (O := bT) 12 [vs [], Value.slice none 0 0, vi 0, vi 0, vB false, vi 0, vi 0, vi 0, vu 0, vu 0, vi 0, vu 0, vi 0, Value.slice none 0 0, vi 0, Value.slice none 0 0, vi 0] ty37 z z ?_
 intro cc bU b6 e T
 refine wY (ya z) z (nl (th (sq (sq (rg ?_)))))
 have ar := bq.st e z
 refine wY (yL ty37 z z (ar.cells 0 [vs a0.Name, (Value.slice m n o), vi a0.Kind, vi a0.Temp, vB a0.Mono, vi a0.Start, vi a0.Time, vi a0.Int_, vu a0.Re, vu a0.Im, vi a0.Hist.Scale, vu a0.Hist.Zero, vi a0.Hist.Pos.Offset, (Value.slice F G H), vi a0.Hist.Neg.Offset, (Value.slice I J K), vi a0.Flags] z) z) z ?_
 have br := ao.i l z z
 have ac := br.i e z z
 have bs := ap.i l z z
 have ad := bs.i e z z
 have bt := aq.i l z z
 have ae := bt.i e z z
 obtain ⟨cd, bu, h⟩ := bnd h
 refine WL.call (vals := [ag [vs a0.Name, (Value.slice m n o), vi a0.Kind, vi a0.Temp, vB a0.Mono, vi a0.Start, vi a0.Time, vi a0.Int_, vu a0.Re, vu a0.Im, vi a0.Hist.Scale, vu a0.Hist.Zero, vi a0.Hist.Pos.Offset, (Value.slice F G H), vi a0.Hist.Neg.Offset, (Value.slice I J K), vi a0.Flags]]) kok77 z z (c_ref12_Check (A := fun _ => True) (a0 := a0) (Sl.all ac) (Sl.all ad) (Sl.all ae) bu) ?_
 rintro b7 b8 ⟨rfl, bw⟩
 obtain ⟨aa, bW, bX, d⟩ := adoptE bU (fun k => 1) bw
 refine wY (ya z) z (nl (th (sq (rg (wY (ym z) z (wY (Y.neq_i z z) z (nl (th ?_))))))))
 rcases cnd h with ⟨af, h⟩ | ⟨af, h⟩
 ·refine WC.condT' z af (sq (rg (wY (yb (vals := []) (cells := [vs [], Value.slice none 0 0, vi 0, vi 0, vB false, vi 0, vi 0, vi 0, vu 0, vu 0, vi 0, vu 0, vi 0, Value.slice none 0 0, vi 0, Value.slice none 0 0, vi 0]) (fe_ z) (by kernel_rfl)) z (wY (ym z) z ?_))))
  have bx := T.st d z
  refine WL.store (v := Value.agg (List.toArray [vs [], Value.slice none 0 0, vi 0, vi 0, vB false, vi 0, vi 0, vi 0, vu 0, vu 0, vi 0, vu 0, vi 0, Value.slice none 0 0, vi 0, Value.slice none 0 0, vi 0])) (cells' := [vs [], Value.slice none 0 0, vi 0, vi 0, vB false, vi 0, vi 0, vi 0, vu 0, vu 0, vi 0, vu 0, vi 0, Value.slice none 0 0, vi 0, Value.slice none 0 0, vi 0]) ty37 z z bx z (le_ z) z z ?_
  intro bz ay bA
  refine wY (ya z) z (nl (th (rt (At.thenR ?_))))
  obtain ⟨rfl, rfl⟩ := tup2 h
  have bB : Stp [12] (Lg.O0 A) w aa bz := (tr_ (su_ l z) (tr_ (su_ e z) (tr_ (su_ d z) (su_ ay z))))
  exact At.res (.inl z) z (.cell z (bA.runAg 0 [vs [], Value.slice none 0 0, vi 0, vi 0, vB false, vi 0, vi 0, vi 0, vu 0, vu 0, vi 0, vu 0, vi 0, Value.slice none 0 0, vi 0, Value.slice none 0 0, vi 0] ty37 z z z) (.tmp z .nil)) ⟨Value.slice none 0 0, Value.slice none 0 0, Value.slice none 0 0, z, (se_ bB z z), (Or.inl ⟨z, z⟩), (Or.inl ⟨z, z⟩), (Or.inl ⟨z, z⟩)⟩
 ·refine WC.condF' z af (sk (th (sq (sq (rg (wY (yf fo37_3 z) z ?_))))))
  have U := ar.st d z
  refine wY (yl ty3 z z (U.cell 3 _ z)) z (wY (ym z) z (wY (Y.neq_i z z) z (nl (th ?_))))
  rcases cnd h with ⟨ah, h⟩ | ⟨ah, h⟩
  ·refine WC.condT' z ah (sq (rg (wY (yb (vals := []) (cells := [vs [], Value.slice none 0 0, vi 0, vi 0, vB false, vi 0, vi 0, vi 0, vu 0, vu 0, vi 0, vu 0, vi 0, Value.slice none 0 0, vi 0, Value.slice none 0 0, vi 0]) (fe_ z) (by kernel_rfl)) z ?_)))
   have bC := T.st d z
   refine WL.store (v := Value.agg (List.toArray [vs [], Value.slice none 0 0, vi 0, vi 0, vB false, vi 0, vi 0, vi 0, vu 0, vu 0, vi 0, vu 0, vi 0, Value.slice none 0 0, vi 0, Value.slice none 0 0, vi 0])) (cells' := [vs [], Value.slice none 0 0, vi 0, vi 0, vB false, vi 0, vi 0, vi 0, vu 0, vu 0, vi 0, vu 0, vi 0, Value.slice none 0 0, vi 0, Value.slice none 0 0, vi 0]) ty37 z z bC z (le_ z) z z ?_
   intro bD az bE
   refine wY (ya z) z (nl (th (rt (At.thenR ?_))))
   obtain ⟨rfl, rfl⟩ := tup2 h
   have bF : Stp [12] (Lg.O0 A) w aa bD := (tr_ (su_ l z) (tr_ (su_ e z) (tr_ (su_ d z) (su_ az z))))
   exact At.res (.inl z) z (.cell z (bE.runAg 0 [vs [], Value.slice none 0 0, vi 0, vi 0, vB false, vi 0, vi 0, vi 0, vu 0, vu 0, vi 0, vu 0, vi 0, Value.slice none 0 0, vi 0, Value.slice none 0 0, vi 0] ty37 z z z) (.tmp z .nil)) ⟨Value.slice none 0 0, Value.slice none 0 0, Value.slice none 0 0, z, (se_ bF z z), (Or.inl ⟨z, z⟩), (Or.inl ⟨z, z⟩), (Or.inl ⟨z, z⟩)⟩
  ·refine WC.condF' z ah (sk (th (sq (sq (rg (wY (yf fo37_11 z) z (wY (yl ty3 z z (U.cell 16 _ z)) z (wY (Y.neq_i z z) z (nl ?_)))))))))
   refine th ?_
   rcases cnd h with ⟨ai, h⟩ | ⟨ai, h⟩
   ·refine WC.condT' z ai (sq (rg (wY (yb (vals := []) (cells := [vs [], Value.slice none 0 0, vi 0, vi 0, vB false, vi 0, vi 0, vi 0, vu 0, vu 0, vi 0, vu 0, vi 0, Value.slice none 0 0, vi 0, Value.slice none 0 0, vi 0]) (fe_ z) (by kernel_rfl)) z ?_)))
    have bG := T.st d z
    refine WL.store (v := Value.agg (List.toArray [vs [], Value.slice none 0 0, vi 0, vi 0, vB false, vi 0, vi 0, vi 0, vu 0, vu 0, vi 0, vu 0, vi 0, Value.slice none 0 0, vi 0, Value.slice none 0 0, vi 0])) (cells' := [vs [], Value.slice none 0 0, vi 0, vi 0, vB false, vi 0, vi 0, vi 0, vu 0, vu 0, vi 0, vu 0, vi 0, Value.slice none 0 0, vi 0, Value.slice none 0 0, vi 0]) ty37 z z bG z (le_ z) z z ?_
    intro bH aA bI
    refine wY (ya z) z (nl (th (rt (At.thenR ?_))))
    obtain ⟨rfl, rfl⟩ := tup2 h
    have bJ : Stp [12] (Lg.O0 A) w aa bH := (tr_ (su_ l z) (tr_ (su_ e z) (tr_ (su_ d z) (su_ aA z))))
    exact At.res (.inl z) z (.cell z (bI.runAg 0 [vs [], Value.slice none 0 0, vi 0, vi 0, vB false, vi 0, vi 0, vi 0, vu 0, vu 0, vi 0, vu 0, vi 0, Value.slice none 0 0, vi 0, Value.slice none 0 0, vi 0] ty37 z z z) (.tmp z .nil)) ⟨Value.slice none 0 0, Value.slice none 0 0, Value.slice none 0 0, z, (se_ bJ z z), (Or.inl ⟨z, z⟩), (Or.inl ⟨z, z⟩), (Or.inl ⟨z, z⟩)⟩
   ·refine WC.condF' z ai (sk (th (sq (sq (rg (wY (yf fo37_2 z) z (wY (yl ty3 z z (U.cell 2 _ z)) z (wY (Y.eql_i z z) z (nl ?_)))))))))
    refine th ?_
    rcases cnd h with ⟨aj, h⟩ | ⟨aj, h⟩
    ·refine WC.condT' z aj (sq (rg (wY (yf fo37_10 z) z (wY (yL ty30 z z (U.cells 10 [vi a0.Hist.Scale, vu a0.Hist.Zero, vi a0.Hist.Pos.Offset, (Value.slice F G H), vi a0.Hist.Neg.Offset, (Value.slice I J K)] z) z) z (wY (ym z) z ?_)))))
     have bK := ad.i d z z
     have bL := ae.i d z z
     obtain ⟨⟨c, ce⟩, bM, h⟩ := bnd h
     refine WL.call (vals := [ag [vi a0.Hist.Scale, vu a0.Hist.Zero, vi a0.Hist.Pos.Offset, (Value.slice F G H), vi a0.Hist.Neg.Offset, (Value.slice I J K)], vi a2]) kok78 z z (c_ref08_Fit (A := fun _ => True) (a0 := a0.Hist) (Sl.all bK) (Sl.all bL) bM) ?_
     rintro b9 au ⟨bY, bZ, rfl, bO, b0, b1⟩
     obtain ⟨av, b2, ab, D⟩ := adoptE aa (fun k => 1) bO
     have bP : Sl Rep.u au (frs av) bY c.Pos.Counts := Sl.adoptF b0 (fun k hk => ⟨hk, z⟩) ab
     have bQ : Sl Rep.u au (frs av) bZ c.Neg.Counts := Sl.adoptF b1 (fun k hk => ⟨hk, z⟩) ab
     refine wY (ym z) z (wY (yx z z) z (wY (yx z z) z (WL.alloc (O := av) 13 [vi 0, vu 0, vi 0, Value.slice none 0 0, vi 0, Value.slice none 0 0] ty30 z z ?_)))
     intro cf bm ca p bR
     have aw := bP.f p z
     have bS := h
     obtain ⟨L, M, P, rfl⟩ := aw.shape
     have h := bS
     have am := bQ.f p z
     have aC := h
     obtain ⟨q, r, t, rfl⟩ := am.shape
     have h := aC
     refine WL.store (v := ag [vi c.Scale, vu c.Zero, vi c.Pos.Offset, (Value.slice L M P), vi c.Neg.Offset, (Value.slice q r t)]) (cells' := [vi c.Scale, vu c.Zero, vi c.Pos.Offset, (Value.slice L M P), vi c.Neg.Offset, (Value.slice q r t)]) ty30 z z bR z (le_ z) z z ?_
     intro b3 j aD
     refine wY (ya z) z (nl (th (sq (sq (rg (wY (ym z) z (wY (Y.neq_i z z) z (nl (th ?_)))))))))
     rcases cnd h with ⟨Z, h⟩ | ⟨Z, h⟩
     ·refine WC.condT' z Z (sq (rg (wY (yb (vals := []) (cells := [vs [], Value.slice none 0 0, vi 0, vi 0, vB false, vi 0, vi 0, vi 0, vu 0, vu 0, vi 0, vu 0, vi 0, Value.slice none 0 0, vi 0, Value.slice none 0 0, vi 0]) (fe_ z) (by kernel_rfl)) z (wY (ym z) z ?_))))
      have aE := T.st d z
      have aF := aE.st D z
      have aG := aF.st p z
      have aH := aG.st j z
      refine WL.store (v := Value.agg (List.toArray [vs [], Value.slice none 0 0, vi 0, vi 0, vB false, vi 0, vi 0, vi 0, vu 0, vu 0, vi 0, vu 0, vi 0, Value.slice none 0 0, vi 0, Value.slice none 0 0, vi 0])) (cells' := [vs [], Value.slice none 0 0, vi 0, vi 0, vB false, vi 0, vi 0, vi 0, vu 0, vu 0, vi 0, vu 0, vi 0, Value.slice none 0 0, vi 0, Value.slice none 0 0, vi 0]) ty37 z z aH z (le_ z) z z ?_
      intro aI ax aJ
      refine wY (ya z) z (nl (th (rt (At.thenR (At.thenR ?_)))))
      obtain ⟨rfl, rfl⟩ := tup2 h
      have aK : Stp [12, 13] (Lg.O0 A) w bm aI := (tr_ (su_ l z) (tr_ (su_ e z) (tr_ (su_ d z) (tr_ (su_ D z) (tr_ (su_ p z) (tr_ (su_ j z) (su_ ax z)))))))
      exact At.res (.inl z) z (.cell z (aJ.runAg 0 [vs [], Value.slice none 0 0, vi 0, vi 0, vB false, vi 0, vi 0, vi 0, vu 0, vu 0, vi 0, vu 0, vi 0, Value.slice none 0 0, vi 0, Value.slice none 0 0, vi 0] ty37 z z z) (.tmp z .nil)) ⟨Value.slice none 0 0, Value.slice none 0 0, Value.slice none 0 0, z, (se_ aK z z), (Or.inl ⟨z, z⟩), (Or.inl ⟨z, z⟩), (Or.inl ⟨z, z⟩)⟩
     ·refine WC.condF' z Z (sk (th (rg (wY (yL ty30 z z (aD.cells 0 [vi c.Scale, vu c.Zero, vi c.Pos.Offset, (Value.slice L M P), vi c.Neg.Offset, (Value.slice q r t)] z) z) z (wY (yf fo37_10 z) z ?_)))))
      have aL := U.st D z
      have aM := aL.st p z
      have aN := aM.st j z
      refine WL.store (v := ag [vi c.Scale, vu c.Zero, vi c.Pos.Offset, (Value.slice L M P), vi c.Neg.Offset, (Value.slice q r t)]) (cells' := [vs a0.Name, (Value.slice m n o), vi a0.Kind, vi a0.Temp, vB a0.Mono, vi a0.Start, vi a0.Time, vi a0.Int_, vu a0.Re, vu a0.Im, vi c.Scale, vu c.Zero, vi c.Pos.Offset, (Value.slice L M P), vi c.Neg.Offset, (Value.slice q r t), vi a0.Flags]) ty30 z z aN z (le_ z) z z ?_
      intro b4 C aO
      refine nl (th (sq (rg (wY (yL ty37 z z (aO.cells 0 [vs a0.Name, (Value.slice m n o), vi a0.Kind, vi a0.Temp, vB a0.Mono, vi a0.Start, vi a0.Time, vi a0.Int_, vu a0.Re, vu a0.Im, vi c.Scale, vu c.Zero, vi c.Pos.Offset, (Value.slice L M P), vi c.Neg.Offset, (Value.slice q r t), vi a0.Flags] z) z) z ?_))))
      have aP := T.st d z
      have aQ := aP.st D z
      have aR := aQ.st p z
      have aS := aR.st j z
      have aT := aS.st C z
      refine WL.store (v := ag [vs a0.Name, (Value.slice m n o), vi a0.Kind, vi a0.Temp, vB a0.Mono, vi a0.Start, vi a0.Time, vi a0.Int_, vu a0.Re, vu a0.Im, vi c.Scale, vu c.Zero, vi c.Pos.Offset, (Value.slice L M P), vi c.Neg.Offset, (Value.slice q r t), vi a0.Flags]) (cells' := [vs a0.Name, (Value.slice m n o), vi a0.Kind, vi a0.Temp, vB a0.Mono, vi a0.Start, vi a0.Time, vi a0.Int_, vu a0.Re, vu a0.Im, vi c.Scale, vu c.Zero, vi c.Pos.Offset, (Value.slice L M P), vi c.Neg.Offset, (Value.slice q r t), vi a0.Flags]) ty37 z z aT z (le_ z) z z ?_
      intro aU Q aW
      refine wY (ya z) z (nl (th (rt ?_)))
      obtain ⟨rfl, rfl⟩ := tup2 h
      have V : Stp [11, 12, 13] (Lg.O0 A) w bm aU := (tr_ (su_ l z) (tr_ (su_ e z) (tr_ (su_ d z) (tr_ (su_ D z) (tr_ (su_ p z) (tr_ (su_ j z) (tr_ (su_ C z) (su_ Q z))))))))
      have aX := ac.i d z z
      have aY := aX.i D z z
      have aZ := aY.i p z z
      have a3 := aZ.i j z z
      have a4 := a3.i C z z
      have a5 := a4.i Q z z
      have a6 := aw.f j z
      have a7 := a6.f C z
      have a8 := a7.f Q z
      have a9 := am.f j z
      have ba := a9.f C z
      have bb := ba.f Q z
      exact At.res (.inl z) z (.cell z (aW.runAg 0 [vs a0.Name, (Value.slice m n o), vi a0.Kind, vi a0.Temp, vB a0.Mono, vi a0.Start, vi a0.Time, vi a0.Int_, vu a0.Re, vu a0.Im, vi c.Scale, vu c.Zero, vi c.Pos.Offset, (Value.slice L M P), vi c.Neg.Offset, (Value.slice q r t), vi a0.Flags] ty37 z z z) (.tmp z .nil)) ⟨(Value.slice m n o), (Value.slice L M P), (Value.slice q r t), z, (se_ V z z), (Sl.outI a5 V low0 O0_A), (Sl.outI (Sl.mono a8 frs_imm) V low0 O0_A), (Sl.outI (Sl.mono bb frs_imm) V low0 O0_A)⟩
    ·refine WC.condF' z aj (sk (th (sq (rg (wY (yL ty37 z z (U.cells 0 [vs a0.Name, (Value.slice m n o), vi a0.Kind, vi a0.Temp, vB a0.Mono, vi a0.Start, vi a0.Time, vi a0.Int_, vu a0.Re, vu a0.Im, vi a0.Hist.Scale, vu a0.Hist.Zero, vi a0.Hist.Pos.Offset, (Value.slice F G H), vi a0.Hist.Neg.Offset, (Value.slice I J K), vi a0.Flags] z) z) z ?_)))))
     have bc := T.st d z
     refine WL.store (v := ag [vs a0.Name, (Value.slice m n o), vi a0.Kind, vi a0.Temp, vB a0.Mono, vi a0.Start, vi a0.Time, vi a0.Int_, vu a0.Re, vu a0.Im, vi a0.Hist.Scale, vu a0.Hist.Zero, vi a0.Hist.Pos.Offset, (Value.slice F G H), vi a0.Hist.Neg.Offset, (Value.slice I J K), vi a0.Flags]) (cells' := [vs a0.Name, (Value.slice m n o), vi a0.Kind, vi a0.Temp, vB a0.Mono, vi a0.Start, vi a0.Time, vi a0.Int_, vu a0.Re, vu a0.Im, vi a0.Hist.Scale, vu a0.Hist.Zero, vi a0.Hist.Pos.Offset, (Value.slice F G H), vi a0.Hist.Neg.Offset, (Value.slice I J K), vi a0.Flags]) ty37 z z bc z (le_ z) z z ?_
     intro bd S bf
     refine wY (ya z) z (nl (th (rt ?_)))
     obtain ⟨rfl, rfl⟩ := tup2 h
     have W : Stp [12] (Lg.O0 A) w aa bd := (tr_ (su_ l z) (tr_ (su_ e z) (tr_ (su_ d z) (su_ S z))))
     have bg := ac.i d z z
     have bh := bg.i S z z
     have bi := ad.i d z z
     have bj := bi.i S z z
     have bk := ae.i d z z
     have bl := bk.i S z z
     exact At.res (.inl z) z (.cell z (bf.runAg 0 [vs a0.Name, (Value.slice m n o), vi a0.Kind, vi a0.Temp, vB a0.Mono, vi a0.Start, vi a0.Time, vi a0.Int_, vu a0.Re, vu a0.Im, vi a0.Hist.Scale, vu a0.Hist.Zero, vi a0.Hist.Pos.Offset, (Value.slice F G H), vi a0.Hist.Neg.Offset, (Value.slice I J K), vi a0.Flags] ty37 z z z) (.tmp z .nil)) ⟨(Value.slice m n o), (Value.slice F G H), (Value.slice I J K), z, (se_ W z z), (Sl.outI bh W low0 O0_A), (Sl.outI bj W low0 O0_A), (Sl.outI bl W low0 O0_A)⟩
theorem c_ref15_Wide {a0 : Int} {a1 : Int} {a2 : Bool} {w : World} {r0 : Bool} (h : ref15_Wide a0 a1 a2 = some r0) : Rets Try.prog 15 [vi a0, vi a1, vB a2] w (fun v w' => v = vB r0 ∧ Ext w w') := by
 unfold ref15_Wide at h
 refine Rets.enter Try.func15 z z ?_
 refine (show WC _ _ _ _ [(0, vi a0), (1, vi a1), (2, vB a2)] _ from ?_)
 refine sq (rg (wY (ya z) z (nl (th (sq (rg (wY (ym z) z (wY (Y.quo_i (by decide) z z) z (wY (ym z) z ?_)))))))))
 refine wY (Y.rem_i (by decide) z z) z ?_
 obtain ⟨I, S, h⟩ := lt1 h
 refine WL.yE (ya z) (congrArg vi S.symm) z ?_
 obtain ⟨T, U, h⟩ := lt1 h
 refine WL.yE (ya z) (congrArg vi U.symm) z (nl (th (sq (rg (wY (ym z) z (wY (Y.quo_i (by decide) z z) z (wY (ym z) z (wY (Y.rem_i (by decide) z z) z ?_))))))))
 obtain ⟨ak, V, h⟩ := lt1 h
 refine WL.yE (ya z) (congrArg vi V.symm) z ?_
 obtain ⟨al, W, h⟩ := lt1 h
 refine WL.yE (ya z) (congrArg vi W.symm) z (nl (th (sq ?_)))
 obtain ⟨am, h, Z⟩ := bnd h
 refine WC.join (σ := (Int × Int)) (fun x w' => (x.1, x.2) = am ∧ w = w') (fun x => [(7, vi I), (8, vi T), (9, vi x.1), (10, vi x.2)]) ?_ ?_
 ·refine sq (rg (wY (ym z) z (nl (th ?_))))
  rcases cnd h with ⟨l, h⟩ | ⟨l, h⟩
  ·refine WC.condT' z l (sq (rg (wY (ym z) z (wY (Y.sub_i z z) z ?_))))
   obtain ⟨an, aa, h⟩ := lt1 h
   refine WL.yE (ya z) (congrArg vi aa.symm) z (nl (th (rg (wY (ym z) z (wY (Y.sub_i z z) z ?_)))))
   obtain ⟨ao, ab, h⟩ := lt1 h
   refine WL.yE (ya z) (congrArg vi ab.symm) z (nl ?_)
   exact At.join (σ := (Int × Int)) (an, ao) ⟨some1 h, z⟩ (.cons z (.cons z (.cons z (.cons z .nil))))
  ·refine WC.condF' z l (sk ?_)
   exact At.join (σ := (Int × Int)) (ak, al) ⟨some1 h, z⟩ (.cons z (.cons z (.cons z (.cons z .nil))))
 ·rintro ⟨ap, aq⟩ _ ⟨rfl, rfl⟩
  replace h := Z
  try dsimp only at h
  refine (show At _ _ _ [(7, vi I), (8, vi T), (9, vi ap), (10, vi aq)] _ from ?_)
  refine th (sq (rg (wY (ym z) z (wY (ym z) z (wY (Y.add_i z z) z ?_)))))
  obtain ⟨J, t, h⟩ := lt1 h
  refine WL.yE (ya z) (congrArg vi t.symm) z (nl (th (sq (rg (wY (ym z) z (wY (ym z) z (wY (Y.add_i z z) z ?_)))))))
  obtain ⟨K, C, h⟩ := lt1 h
  refine WL.yE (ya z) (congrArg vi C.symm) z (nl (th (sq ?_)))
  obtain ⟨ar, h, ac⟩ := bnd h
  refine WC.join (σ := (Int × Int)) (fun x w' => (x.1, x.2) = ar ∧ w = w') (fun x => [(11, vi x.1), (12, vi x.2)]) ?_ ?_
  ·refine sq (rg (wY (ym z) z (wY (Y.gtr_i z z) z (nl (th ?_)))))
   rcases cnd h with ⟨m, h⟩ | ⟨m, h⟩
   ·refine WC.condT' z m (sq (rg (wY (ym z) z (wY (Y.add_i z z) z ?_))))
    obtain ⟨L, D, h⟩ := lt1 h
    refine WL.yE (ya z) (congrArg vi D.symm) z (nl (th (rg (wY (ym z) z (wY (Y.sub_i z z) z ?_)))))
    obtain ⟨M, F, h⟩ := lt1 h
    refine WL.yE (ya z) (congrArg vi F.symm) z (nl ?_)
    exact At.join (σ := (Int × Int)) (L, M) ⟨some1 h, z⟩ (.cons z (.cons z .nil))
   ·refine WC.condF' z m (sk ?_)
    exact At.join (σ := (Int × Int)) (J, K) ⟨some1 h, z⟩ (.cons z (.cons z .nil))
  ·rintro ⟨e, j⟩ _ ⟨rfl, rfl⟩
   replace h := ac
   try dsimp only at h
   refine (show At _ _ _ [(11, vi e), (12, vi j)] _ from ?_)
   refine th (sq ?_)
   obtain ⟨au, h, ad⟩ := bnd h
   refine WC.join (σ := (Int × Int)) (fun x w' => (x.1, x.2) = au ∧ w = w') (fun x => [(11, vi x.1), (12, vi x.2)]) ?_ ?_
   ·refine sq (rg (wY (ym z) z (wY (Y.lss_i z z) z (nl (th ?_)))))
    rcases cnd h with ⟨n, h⟩ | ⟨n, h⟩
    ·refine WC.condT' z n (sq (rg (wY (ym z) z (wY (Y.sub_i z z) z ?_))))
     obtain ⟨P, G, h⟩ := lt1 h
     refine WL.yE (ya z) (congrArg vi G.symm) z (nl (th (rg (wY (ym z) z (wY (Y.add_i z z) z ?_)))))
     obtain ⟨Q, H, h⟩ := lt1 h
     refine WL.yE (ya z) (congrArg vi H.symm) z (nl ?_)
     exact At.join (σ := (Int × Int)) (P, Q) ⟨some1 h, z⟩ (.cons z (.cons z .nil))
    ·refine WC.condF' z n (sk ?_)
     exact At.join (σ := (Int × Int)) (e, j) ⟨some1 h, z⟩ (.cons z (.cons z .nil))
   ·rintro ⟨c, d⟩ _ ⟨rfl, rfl⟩
    replace h := ad
    try dsimp only at h
    refine (show At _ _ _ [(11, vi c), (12, vi d)] _ from ?_)
    refine th (sq (sq (rg (wY (ym z) z (wY (Y.gtr_i z z) z (wY (ym z) z ?_))))))
    refine WL.cut 3 (σ := Unit) (fun _ w' => w = w') (fun _ => [(11, vi c), (12, vi d), (49, vB ((decide (4611686018427387904 < c)) || (decide (c < (-4611686018427387904)))))]) ?_ ?_
    ·refine WL.part 46 z (fun o => ?_) (fun o => ?_)
     ·refine WL.gS z z z z (WL.gS z z z z (wY (Y.pick (b := true) z z) z (WL.ren (v' := vB ((decide (4611686018427387904 < c)) || (decide (c < (-4611686018427387904))))) 49 z (congrArg vB (orT o)) ?_)))
      exact nl (At.join () z (.cons z (.cons z (.cons z .nil))))
     ·refine ug z z (wY (ym z) z (ug z z (wY (Y.lss_i z z) z (wY (Y.pick (b := false) z z) z (WL.ren (v' := vB ((decide (4611686018427387904 < c)) || (decide (c < (-4611686018427387904))))) 49 z (congrArg vB (orF o)) ?_)))))
      exact nl (At.join () z (.cons z (.cons z (.cons z .nil))))
    ·rintro _ _ rfl
     refine (show WL _ _ _ _ _ [(11, vi c), (12, vi d), (49, vB ((decide (4611686018427387904 < c)) || (decide (c < (-4611686018427387904)))))] _ from ?_)
     refine nl (th ?_)
     rcases cnd h with ⟨p, h⟩ | ⟨p, h⟩
     ·refine WC.condT' z p (sq (rg (wY (ya z) z (nl (th (rt (At.thenR ?_)))))))
      obtain rfl := some1 h
      have ae : Stp [] (Lg.O0 (fun _ => False)) w (Lg.O0 (fun _ => False)) w := (sr_ _ _ _)
      exact At.res (.inl z) z (.tmp z .nil) ⟨z, (se_ ae z z)⟩
     ·refine WC.condF' z p (sk (th (sq (sq (rg (wY (ym z) z (wY (Y.eql_i z z) z (nl (th ?_)))))))))
      rcases cnd h with ⟨q, h⟩ | ⟨q, h⟩
      ·refine WC.condT' z q (sq (rg (wY (ym z) z (wY (Y.geq_i z z) z ?_))))
       obtain ⟨av, af, h⟩ := lt1 h
       refine WL.yE (ya z) (congrArg vB af.symm) z (nl (th (rt (At.thenR ?_))))
       obtain rfl := some1 h
       have ah : Stp [] (Lg.O0 (fun _ => False)) w (Lg.O0 (fun _ => False)) w := (sr_ _ _ _)
       exact At.res (.inl z) z (.tmp z .nil) ⟨z, (se_ ah z z)⟩
      ·refine WC.condF' z q (sk (th (sq (rg (wY (ym z) z (wY (Y.eql_i z z) z (wY (ym z) z ?_)))))))
       refine WL.cut 3 (σ := Unit) (fun _ w' => w = w') (fun _ => [(59, vB ((decide (c = (-4611686018427387904))) && (decide (d < 0))))]) ?_ ?_
       ·refine WL.part 56 z (fun r => ?_) (fun r => ?_)
        ·refine ug z z (wY (ym z) z (ug z z (wY (Y.lss_i z z) z (wY (Y.pick (b := true) z z) z (WL.ren (v' := vB ((decide (c = (-4611686018427387904))) && (decide (d < 0)))) 59 z (congrArg vB (andT r)) ?_)))))
         exact nl (At.join () z (.cons z .nil))
        ·refine WL.gS z z z z (WL.gS z z z z (wY (Y.pick (b := false) z z) z (WL.ren (v' := vB ((decide (c = (-4611686018427387904))) && (decide (d < 0)))) 59 z (congrArg vB (andF r)) ?_)))
         exact nl (At.join () z (.cons z .nil))
       ·rintro _ _ rfl
        refine (show WL _ _ _ _ _ [(59, vB ((decide (c = (-4611686018427387904))) && (decide (d < 0))))] _ from ?_)
        obtain ⟨aw, ai, h⟩ := lt1 h
        refine WL.yE (ya z) (congrArg vB ai.symm) z (nl (th (rt ?_)))
        obtain rfl := some1 h
        have aj : Stp [] (Lg.O0 (fun _ => False)) w (Lg.O0 (fun _ => False)) w := (sr_ _ _ _)
        exact At.res (.inl z) z (.tmp z .nil) ⟨z, (se_ aj z z)⟩
theorem c_ref09_Level {A : Nat → Prop} {v0_3 : Value} {v0_5 : Value} {a0 : api_Hist} {v1_3 : Value} {v1_5 : Value} {a1 : api_Hist} {w : World} (hs0_3 : Sl Rep.u w A v0_3 a0.Pos.Counts) (hs0_5 : Sl Rep.u w A v0_5 a0.Neg.Counts) (hs1_3 : Sl Rep.u w A v1_3 a1.Pos.Counts) (hs1_5 : Sl Rep.u w A v1_5 a1.Neg.Counts) {r0 : ref09_Pair} (h : ref09_Level a0 a1 = some r0) : Rets Try.prog 53 [ag [vi a0.Scale, vu a0.Zero, vi a0.Pos.Offset, v0_3, vi a0.Neg.Offset, v0_5], ag [vi a1.Scale, vu a1.Zero, vi a1.Pos.Offset, v1_3, vi a1.Neg.Offset, v1_5]] w (fun v w' => ∃ (aI : Value) (aJ : Value) (aK : Value) (ay : Value), v = ag [vi r0.X.Scale, vu r0.X.Zero, vi r0.X.Pos.Offset, aI, vi r0.X.Neg.Offset, aJ, vi r0.Y.Scale, vu r0.Y.Zero, vi r0.Y.Pos.Offset, aK, vi r0.Y.Neg.Offset, ay, vi r0.E] ∧ Ext w w' ∧ Sl Rep.u w' (fun k => w.heap.size ≤ k) aI r0.X.Pos.Counts ∧ Sl Rep.u w' (fun k => w.heap.size ≤ k) aJ r0.X.Neg.Counts ∧ Sl Rep.u w' (fun k => w.heap.size ≤ k) aK r0.Y.Pos.Counts ∧ Sl Rep.u w' (fun k => w.heap.size ≤ k) ay r0.Y.Neg.Counts) := by
 unfold ref09_Level at h
 refine Rets.enter Try.func53 z z ?_
 have aL : Sl Rep.u w (imm (Lg.O0 A)) v0_3 a0.Pos.Counts := (Sl.start hs0_3)
 have aM : Sl Rep.u w (imm (Lg.O0 A)) v0_5 a0.Neg.Counts := (Sl.start hs0_5)
 have b6 : Sl Rep.u w (imm (Lg.O0 A)) v1_3 a1.Pos.Counts := (Sl.start hs1_3)
 have b7 : Sl Rep.u w (imm (Lg.O0 A)) v1_5 a1.Neg.Counts := (Sl.start hs1_5)
 refine (show WC _ _ _ _ [(0, ag [vi a0.Scale, vu a0.Zero, vi a0.Pos.Offset, v0_3, vi a0.Neg.Offset, v0_5]), (1, ag [vi a1.Scale, vu a1.Zero, vi a1.Pos.Offset, v1_3, vi a1.Neg.Offset, v1_5])] _ from ?_)
 refine sq (rg ?_)
 have b8 := h
 obtain ⟨aa, ab, ac, rfl⟩ := aL.shape
 have h := b8
 have b9 := h
 obtain ⟨ad, ae, af, rfl⟩ := aM.shape
 have h := b9
 refine WL.box (O := (Lg.O0 A)) 11 [vi a0.Scale, vu a0.Zero, vi a0.Pos.Offset, (Value.slice aa ab ac), vi a0.Neg.Offset, (Value.slice ad ae af)] z z z ?_
 intro b1 cR c5 r ca
 have aN := b6.i r z z
 have cb := h
 obtain ⟨ah, ai, aj, rfl⟩ := aN.shape
 have h := cb
 have aO := b7.i r z z
 have cc := h
 obtain ⟨ak, al, am, rfl⟩ := aO.shape
 have h := cc
 refine WL.box (O := cR) 12 [vi a1.Scale, vu a1.Zero, vi a1.Pos.Offset, (Value.slice ah ai aj), vi a1.Neg.Offset, (Value.slice ak al am)] z z z ?_
 intro b2 cS c6 q cd
 refine WL.alloc (O := cS) 13 [vi 0, vu 0, vi 0, Value.slice none 0 0, vi 0, Value.slice none 0 0, vi 0, vu 0, vi 0, Value.slice none 0 0, vi 0, Value.slice none 0 0, vi 0] ty83 z z ?_
 intro b3 cT c7 l ap
 refine nl (th (sq (sq (rg ?_))))
 have ce := ca.st q z
 have aP := ce.st l z
 refine wY (yL ty30 z z (aP.cells 0 [vi a0.Scale, vu a0.Zero, vi a0.Pos.Offset, (Value.slice aa ab ac), vi a0.Neg.Offset, (Value.slice ad ae af)] z) z) z ?_
 have cf := aL.i r z z
 have cg := cf.i q z z
 have aQ := cg.i l z z
 have ch := aM.i r z z
 have ci := ch.i q z z
 have aR := ci.i l z z
 obtain ⟨an, cj, h⟩ := bnd h
 refine WL.call (vals := [ag [vi a0.Scale, vu a0.Zero, vi a0.Pos.Offset, (Value.slice aa ab ac), vi a0.Neg.Offset, (Value.slice ad ae af)]]) kok82 z z (c_ref08_Check (A := fun _ => True) (a0 := a0) (Sl.all aQ) (Sl.all aR) cj) ?_
 rintro c8 c9 ⟨rfl, ck⟩
 obtain ⟨b4, cU, cV, e⟩ := adoptE cT (fun k => 1) ck
 refine wY (ya z) z (nl (th (sq (rg (wY (ym z) z (wY (Y.neq_i z z) z (nl (th ?_))))))))
 rcases cnd h with ⟨aq, h⟩ | ⟨aq, h⟩
 ·refine WC.condT' z aq (sq (rg (wY (ym z) z (wY (yb (vals := [(2, vi an)]) (cells := [vi 0, vu 0, vi 0, Value.slice none 0 0, vi 0, Value.slice none 0 0, vi 0, vu 0, vi 0, Value.slice none 0 0, vi 0, Value.slice none 0 0, vi an]) (fe_ z) (by kernel_rfl)) z ?_))))
  have cl := ap.st e z
  refine WL.store (v := ag [vi 0, vu 0, vi 0, Value.slice none 0 0, vi 0, Value.slice none 0 0, vi 0, vu 0, vi 0, Value.slice none 0 0, vi 0, Value.slice none 0 0, vi an]) (cells' := [vi 0, vu 0, vi 0, Value.slice none 0 0, vi 0, Value.slice none 0 0, vi 0, vu 0, vi 0, Value.slice none 0 0, vi 0, Value.slice none 0 0, vi an]) ty83 z z cl z (le_ z) z z ?_
  intro cm aW cn
  refine nl (th (rt (At.thenR ?_)))
  obtain rfl := some1 h
  have co : Stp [13] (Lg.O0 A) w b4 cm := (tr_ (su_ r z) (tr_ (su_ q z) (tr_ (su_ l z) (tr_ (su_ e z) (su_ aW z)))))
  exact At.res (.inl z) z (.cell z (cn.runAg 0 [vi 0, vu 0, vi 0, Value.slice none 0 0, vi 0, Value.slice none 0 0, vi 0, vu 0, vi 0, Value.slice none 0 0, vi 0, Value.slice none 0 0, vi an] ty83 z z z) .nil) ⟨Value.slice none 0 0, Value.slice none 0 0, Value.slice none 0 0, Value.slice none 0 0, z, (se_ co z z), (Or.inl ⟨z, z⟩), (Or.inl ⟨z, z⟩), (Or.inl ⟨z, z⟩), (Or.inl ⟨z, z⟩)⟩
 ·refine WC.condF' z aq (sk (th (sq (sq (rg ?_)))))
  have cp := cd.st l z
  have ar := cp.st e z
  refine wY (yL ty30 z z (ar.cells 0 [vi a1.Scale, vu a1.Zero, vi a1.Pos.Offset, (Value.slice ah ai aj), vi a1.Neg.Offset, (Value.slice ak al am)] z) z) z ?_
  have cq := aN.i q z z
  have cr := cq.i l z z
  have aS := cr.i e z z
  have cs := aO.i q z z
  have ct := cs.i l z z
  have aT := ct.i e z z
  obtain ⟨ao, cu, h⟩ := bnd h
  refine WL.call (vals := [ag [vi a1.Scale, vu a1.Zero, vi a1.Pos.Offset, (Value.slice ah ai aj), vi a1.Neg.Offset, (Value.slice ak al am)]]) kok82 z z (c_ref08_Check (A := fun _ => True) (a0 := a1) (Sl.all aS) (Sl.all aT) cu) ?_
  rintro da cv ⟨rfl, cw⟩
  obtain ⟨b5, cW, cX, j⟩ := adoptE b4 (fun k => 1) cw
  refine wY (ya z) z (nl (th (sq (rg (wY (ym z) z (wY (Y.neq_i z z) z (nl (th ?_))))))))
  rcases cnd h with ⟨au, h⟩ | ⟨au, h⟩
  ·refine WC.condT' z au (sq (rg (wY (ym z) z (wY (yb (vals := [(2, vi ao)]) (cells := [vi 0, vu 0, vi 0, Value.slice none 0 0, vi 0, Value.slice none 0 0, vi 0, vu 0, vi 0, Value.slice none 0 0, vi 0, Value.slice none 0 0, vi ao]) (fe_ z) (by kernel_rfl)) z ?_))))
   have cx := ap.st e z
   have cy := cx.st j z
   refine WL.store (v := ag [vi 0, vu 0, vi 0, Value.slice none 0 0, vi 0, Value.slice none 0 0, vi 0, vu 0, vi 0, Value.slice none 0 0, vi 0, Value.slice none 0 0, vi ao]) (cells' := [vi 0, vu 0, vi 0, Value.slice none 0 0, vi 0, Value.slice none 0 0, vi 0, vu 0, vi 0, Value.slice none 0 0, vi 0, Value.slice none 0 0, vi ao]) ty83 z z cy z (le_ z) z z ?_
   intro cz aX cA
   refine nl (th (rt (At.thenR ?_)))
   obtain rfl := some1 h
   have cC : Stp [13] (Lg.O0 A) w b5 cz := (tr_ (su_ r z) (tr_ (su_ q z) (tr_ (su_ l z) (tr_ (su_ e z) (tr_ (su_ j z) (su_ aX z))))))
   exact At.res (.inl z) z (.cell z (cA.runAg 0 [vi 0, vu 0, vi 0, Value.slice none 0 0, vi 0, Value.slice none 0 0, vi 0, vu 0, vi 0, Value.slice none 0 0, vi 0, Value.slice none 0 0, vi ao] ty83 z z z) .nil) ⟨Value.slice none 0 0, Value.slice none 0 0, Value.slice none 0 0, Value.slice none 0 0, z, (se_ cC z z), (Or.inl ⟨z, z⟩), (Or.inl ⟨z, z⟩), (Or.inl ⟨z, z⟩), (Or.inl ⟨z, z⟩)⟩
  ·refine WC.condF' z au (sk (th (sq (rg (wY (yf fo30_0 z) z ?_)))))
   have cD := aP.st e z
   have av := cD.st j z
   refine wY (yl ty3 z z (av.cell 0 _ z)) z (wY (ya z) z (nl (th (sq ?_))))
   obtain ⟨cY, h, cE⟩ := bnd h
   refine WC.join (σ := Int) (fun x w' => x = cY ∧ cv = w') (fun x => [(2, pt b1 0), (3, pt b2 0), (4, pt b3 0), (7, vi x)]) ?_ ?_
   ·refine sq (rg (wY (yf fo30_0 z) z ?_))
    have az := ar.st j z
    refine wY (yl ty3 z z (az.cell 0 _ z)) z (wY (ym z) z (wY (Y.lss_i z z) z (nl (th ?_))))
    rcases cnd h with ⟨Z, h⟩ | ⟨Z, h⟩
    ·refine WC.condT' z Z (rg (wY (yf fo30_0 z) z (wY (yl ty3 z z (az.cell 0 _ z)) z (wY (ya z) z (nl ?_)))))
     exact At.join (σ := Int) a1.Scale ⟨some1 h, z⟩ (.cons z (.cons z (.cons z (.cons z .nil))))
    ·refine WC.condF' z Z (sk ?_)
     exact At.join (σ := Int) a0.Scale ⟨some1 h, z⟩ (.cons z (.cons z (.cons z (.cons z .nil))))
   ·rintro aU _ ⟨rfl, rfl⟩
    replace h := cE
    try dsimp only at h
    refine (show At _ _ _ [(2, pt b1 0), (3, pt b2 0), (4, pt b3 0), (7, vi aU)] _ from ?_)
    refine th (sq (rg (wY (yL ty30 z z (av.cells 0 [vi a0.Scale, vu a0.Zero, vi a0.Pos.Offset, (Value.slice aa ab ac), vi a0.Neg.Offset, (Value.slice ad ae af)] z) z) z (wY (yf fo30_0 z) z (wY (yl ty3 z z (av.cell 0 _ z)) z (wY (ym z) z (wY (Y.sub_i z z) z ?_)))))))
    have aY := aQ.i e z z
    have aZ := aY.i j z z
    have a2 := aR.i e z z
    have a3 := a2.i j z z
    obtain ⟨⟨c, db⟩, a4, h⟩ := bnd h
    refine WL.call (vals := [ag [vi a0.Scale, vu a0.Zero, vi a0.Pos.Offset, (Value.slice aa ab ac), vi a0.Neg.Offset, (Value.slice ad ae af)], vi (w64 (a0.Scale - aU))]) kok54 z z (c_ref08_Down (A := fun _ => True) (a0 := a0) (Sl.all aZ) (Sl.all a3) a4) ?_
    rintro cZ aA ⟨cF, cG, rfl, a5, cH, cI⟩
    obtain ⟨aw, cP, V, Q⟩ := adoptE b5 (fun k => 1) a5
    have a6 : Sl Rep.u aA (frs aw) cF c.Pos.Counts := Sl.adoptF cH (fun k hk => ⟨hk, z⟩) V
    have a7 : Sl Rep.u aA (frs aw) cG c.Neg.Counts := Sl.adoptF cI (fun k hk => ⟨hk, z⟩) V
    refine wY (ym z) z (wY (yx z z) z (wY (yx z z) z (WL.alloc (O := aw) 14 [vi 0, vu 0, vi 0, Value.slice none 0 0, vi 0, Value.slice none 0 0] ty30 z z ?_)))
    intro dc cJ c0 m a8
    have aC := a6.f m z
    have a9 := h
    obtain ⟨t, C, D, rfl⟩ := aC.shape
    have h := a9
    have aD := a7.f m z
    have ba := h
    obtain ⟨F, G, H, rfl⟩ := aD.shape
    have h := ba
    refine WL.store (v := ag [vi c.Scale, vu c.Zero, vi c.Pos.Offset, (Value.slice t C D), vi c.Neg.Offset, (Value.slice F G H)]) (cells' := [vi c.Scale, vu c.Zero, vi c.Pos.Offset, (Value.slice t C D), vi c.Neg.Offset, (Value.slice F G H)]) ty30 z z a8 z (le_ z) z z ?_
    intro c1 n bb
    refine wY (ya z) z (nl (th (sq (rg ?_))))
    have bc := ar.st j z
    have bd := bc.st Q z
    have bf := bd.st m z
    have aE := bf.st n z
    refine wY (yL ty30 z z (aE.cells 0 [vi a1.Scale, vu a1.Zero, vi a1.Pos.Offset, (Value.slice ah ai aj), vi a1.Neg.Offset, (Value.slice ak al am)] z) z) z (wY (yf fo30_0 z) z (wY (yl ty3 z z (aE.cell 0 _ z)) z (wY (ym z) z (wY (Y.sub_i z z) z ?_))))
    have bg := aS.i j z z
    have bh := bg.i Q z z
    have bi := bh.i m z z
    have bj := bi.i n z z
    have bk := aT.i j z z
    have bl := bk.i Q z z
    have bm := bl.i m z z
    have bn := bm.i n z z
    obtain ⟨⟨d, dd⟩, bo, h⟩ := bnd h
    refine WL.call (vals := [ag [vi a1.Scale, vu a1.Zero, vi a1.Pos.Offset, (Value.slice ah ai aj), vi a1.Neg.Offset, (Value.slice ak al am)], vi (w64 (a1.Scale - aU))]) kok54 z z (c_ref08_Down (A := fun _ => True) (a0 := a1) (Sl.all bj) (Sl.all bn) bo) ?_
    rintro c2 aF ⟨cK, cL, rfl, bp, cM, cN⟩
    obtain ⟨ax, cQ, W, S⟩ := adoptE cJ (fun k => 1) bp
    have bq : Sl Rep.u aF (frs ax) cK d.Pos.Counts := Sl.adoptF cM (fun k hk => ⟨hk, z⟩) W
    have br : Sl Rep.u aF (frs ax) cL d.Neg.Counts := Sl.adoptF cN (fun k hk => ⟨hk, z⟩) W
    refine wY (ym z) z (wY (yx z z) z (wY (yx z z) z (WL.alloc (O := ax) 15 [vi 0, vu 0, vi 0, Value.slice none 0 0, vi 0, Value.slice none 0 0] ty30 z z ?_)))
    intro de cO c3 o bs
    have aG := bq.f o z
    have bt := h
    obtain ⟨I, J, K, rfl⟩ := aG.shape
    have h := bt
    have aH := br.f o z
    have bu := h
    obtain ⟨L, M, P, rfl⟩ := aH.shape
    have h := bu
    refine WL.store (v := ag [vi d.Scale, vu d.Zero, vi d.Pos.Offset, (Value.slice I J K), vi d.Neg.Offset, (Value.slice L M P)]) (cells' := [vi d.Scale, vu d.Zero, vi d.Pos.Offset, (Value.slice I J K), vi d.Neg.Offset, (Value.slice L M P)]) ty30 z z bs z (le_ z) z z ?_
    intro c4 p bw
    refine wY (ya z) z (nl (th (sq (rg ?_))))
    have bx := bb.st S z
    have bz := bx.st o z
    have bA := bz.st p z
    refine wY (yL ty30 z z (bA.cells 0 [vi c.Scale, vu c.Zero, vi c.Pos.Offset, (Value.slice t C D), vi c.Neg.Offset, (Value.slice F G H)] z) z) z (wY (yL ty30 z z (bw.cells 0 [vi d.Scale, vu d.Zero, vi d.Pos.Offset, (Value.slice I J K), vi d.Neg.Offset, (Value.slice L M P)] z) z) z (wY (yb (vals := [(0, ag [vi c.Scale, vu c.Zero, vi c.Pos.Offset, (Value.slice t C D), vi c.Neg.Offset, (Value.slice F G H)]), (1, ag [vi d.Scale, vu d.Zero, vi d.Pos.Offset, (Value.slice I J K), vi d.Neg.Offset, (Value.slice L M P)])]) (cells := [vi c.Scale, vu c.Zero, vi c.Pos.Offset, (Value.slice t C D), vi c.Neg.Offset, (Value.slice F G H), vi d.Scale, vu d.Zero, vi d.Pos.Offset, (Value.slice I J K), vi d.Neg.Offset, (Value.slice L M P), vi 0]) (fe_ z) (by kernel_rfl)) z ?_))
    have bB := ap.st e z
    have bC := bB.st j z
    have bD := bC.st Q z
    have bE := bD.st m z
    have bF := bE.st n z
    have bG := bF.st S z
    have bH := bG.st o z
    have bI := bH.st p z
    refine WL.store (v := ag [vi c.Scale, vu c.Zero, vi c.Pos.Offset, (Value.slice t C D), vi c.Neg.Offset, (Value.slice F G H), vi d.Scale, vu d.Zero, vi d.Pos.Offset, (Value.slice I J K), vi d.Neg.Offset, (Value.slice L M P), vi 0]) (cells' := [vi c.Scale, vu c.Zero, vi c.Pos.Offset, (Value.slice t C D), vi c.Neg.Offset, (Value.slice F G H), vi d.Scale, vu d.Zero, vi d.Pos.Offset, (Value.slice I J K), vi d.Neg.Offset, (Value.slice L M P), vi 0]) ty83 z z bI z (le_ z) z z ?_
    intro bJ T bK
    refine nl (th (rt ?_))
    obtain rfl := some1 h
    have U : Stp [13, 14, 15] (Lg.O0 A) w cO bJ := (tr_ (su_ r z) (tr_ (su_ q z) (tr_ (su_ l z) (tr_ (su_ e z) (tr_ (su_ j z) (tr_ (su_ Q z) (tr_ (su_ m z) (tr_ (su_ n z) (tr_ (su_ S z) (tr_ (su_ o z) (tr_ (su_ p z) (su_ T z))))))))))))
    have bL := aC.f n z
    have bM := bL.f S z
    have bO := bM.f o z
    have bP := bO.f p z
    have bQ := bP.f T z
    have bR := aD.f n z
    have bS := bR.f S z
    have bT := bS.f o z
    have bU := bT.f p z
    have bW := bU.f T z
    have bX := aG.f p z
    have bY := bX.f T z
    have bZ := aH.f p z
    have b0 := bZ.f T z
    exact At.res (.inl z) z (.cell z (bK.runAg 0 [vi c.Scale, vu c.Zero, vi c.Pos.Offset, (Value.slice t C D), vi c.Neg.Offset, (Value.slice F G H), vi d.Scale, vu d.Zero, vi d.Pos.Offset, (Value.slice I J K), vi d.Neg.Offset, (Value.slice L M P), vi 0] ty83 z z z) .nil) ⟨(Value.slice t C D), (Value.slice F G H), (Value.slice I J K), (Value.slice L M P), z, (se_ U z z), (Sl.outF bQ U low0), (Sl.outF bW U low0), (Sl.outF bY U low0), (Sl.outF b0 U low0)⟩
theorem c_ref09_reach {A : Nat → Prop} {v0_1 : Value} {a0 : api_Side} {v1_1 : Value} {a1 : api_Side} {w : World} (hs0_1 : Sl Rep.u w A v0_1 a0.Counts) (hs1_1 : Sl Rep.u w A v1_1 a1.Counts) {r0 : Int} {r1 : Int} {r2 : Bool} (h : ref09_reach a0 a1 = some (r0, r1, r2)) : Rets Try.prog 108 [ag [vi a0.Offset, v0_1], ag [vi a1.Offset, v1_1]] w (fun v w' => v = tp [vi r0, vi r1, vB r2] ∧ Ext w w') := by
 unfold ref09_reach at h
 refine Rets.enter Try.func108 z z ?_
 have ab : Sl Rep.u w (imm (Lg.O0 A)) v0_1 a0.Counts := (Sl.start hs0_1)
 have al : Sl Rep.u w (imm (Lg.O0 A)) v1_1 a1.Counts := (Sl.start hs1_1)
 refine (show WC _ _ _ _ [(0, ag [vi a0.Offset, v0_1]), (1, ag [vi a1.Offset, v1_1])] _ from ?_)
 refine sq (rg ?_)
 have am := h
 obtain ⟨ah, ai, aj, rfl⟩ := ab.shape
 have h := am
 refine WL.box (O := (Lg.O0 A)) 11 [vi a0.Offset, (Value.slice ah ai aj)] z z z ?_
 intro m aN aR e an
 have r := al.i e z z
 have ao := h
 obtain ⟨o, p, q, rfl⟩ := r.shape
 have h := ao
 refine WL.box (O := aN) 12 [vi a1.Offset, (Value.slice o p q)] z z z ?_
 intro n S D c F
 refine wY (ya z) z (wY (ya z) z (wY (ya z) z (nl (th (sq (sq (rg (wY (yf fo28_1 z) z ?_))))))))
 have t := an.st c z
 refine wY (yl ty26 z z (t.cell 1 _ z)) z ?_
 have ap := ab.i e z z
 have G := ap.i c z z
 refine wY (Y.len ty26 z G) z (wY (Y.eql_i z z) z (wY (ym z) z ?_))
 refine WL.cut 5 (σ := Unit) (fun _ w' => D = w') (fun _ => [(2, pt m 0), (3, pt n 0), (16, vB ((decide ((a0.Counts.length : Int) = 0)) && (decide ((a1.Counts.length : Int) = 0))))]) ?_ ?_
 ·refine WL.part 11 z (fun H => ?_) (fun H => ?_)
  ·refine ug z z (wY (yf fo28_1 z) z (ug z z (wY (yl ty26 z z (F.cell 1 _ z)) z (ug z z ?_))))
   have aq := r.i c z z
   refine wY (Y.len ty26 z aq) z (ug z z (wY (Y.eql_i z z) z (wY (Y.pick (b := true) z z) z (WL.ren (v' := vB ((decide ((a0.Counts.length : Int) = 0)) && (decide ((a1.Counts.length : Int) = 0)))) 16 z (congrArg vB (andT H)) ?_))))
   exact nl (At.join () z (.cons z (.cons z (.cons z .nil))))
  ·refine WL.gS z z z z (WL.gS z z z z (WL.gS z z z z (WL.gS z z z z (wY (Y.pick (b := false) z z) z (WL.ren (v' := vB ((decide ((a0.Counts.length : Int) = 0)) && (decide ((a1.Counts.length : Int) = 0)))) 16 z (congrArg vB (andF H)) ?_)))))
   exact nl (At.join () z (.cons z (.cons z (.cons z .nil))))
 ·rintro _ _ rfl
  refine (show WL _ _ _ _ _ [(2, pt m 0), (3, pt n 0), (16, vB ((decide ((a0.Counts.length : Int) = 0)) && (decide ((a1.Counts.length : Int) = 0))))] _ from ?_)
  refine nl (th ?_)
  rcases cnd h with ⟨I, h⟩ | ⟨I, h⟩
  ·refine WC.condT' z I (sq (rg (wY (ya z) z (wY (ya z) z (wY (ya z) z (nl (th (rt (At.thenR ?_)))))))))
   obtain ⟨rfl, rfl, rfl⟩ := tup3 h
   have ar : Stp [] (Lg.O0 A) w S D := (tr_ (su_ e z) (su_ c z))
   exact At.res (.inl z) z (.tmp z (.tmp z (.tmp z .nil))) ⟨z, (se_ ar z z)⟩
  ·refine WC.condF' z I (sk (th (sq ?_)))
   obtain ⟨aO, h, au⟩ := bnd h
   refine WC.join (σ := (Int × List UInt64 × Own × Value)) (fun x w' => (x.1, x.2.1) = aO ∧ Stp [11] S D x.2.2.1 w' ∧ Sl Rep.u w' (imm x.2.2.1) x.2.2.2 x.2.1 ∧ Blk 11 x.2.2.1 w' m 28 [vi x.1, x.2.2.2]) (fun x => [(2, pt m 0), (3, pt n 0)]) ?_ ?_
   ·refine sq (rg (wY (yf fo28_1 z) z (wY (yl ty26 z z (t.cell 1 _ z)) z (wY (Y.len ty26 z G) z (wY (Y.eql_i z z) z (nl (th ?_)))))))
    rcases cnd h with ⟨J, h⟩ | ⟨J, h⟩
    ·refine WC.condT' z J (rg (wY (yL ty28 z z (F.cells 0 [vi a1.Offset, (Value.slice o p q)] z) z) z (WL.store (v := ag [vi a1.Offset, (Value.slice o p q)]) (cells' := [vi a1.Offset, (Value.slice o p q)]) ty28 z z t z (le_ z) z z ?_)))
     intro aS T av
     refine nl ?_
     have aw := r.i c z z
     have ax := aw.i T z z
     exact At.join (σ := (Int × List UInt64 × Own × Value)) (a1.Offset, a1.Counts, S, (Value.slice o p q)) ⟨some1 h, (su_ T z), ax, av⟩ (.cons z (.cons z .nil))
    ·refine WC.condF' z J (sk ?_)
     exact At.join (σ := (Int × List UInt64 × Own × Value)) (a0.Offset, a0.Counts, S, (Value.slice ah ai aj)) ⟨some1 h, (sr_ _ _ _), G, t⟩ (.cons z (.cons z .nil))
   ·rintro ⟨U, aP, ac, aW⟩ ay ⟨rfl, j, C, K⟩
    replace h := au
    try dsimp only at h j C K
    refine (show At _ _ _ [(2, pt m 0), (3, pt n 0)] _ from ?_)
    refine th (sq ?_)
    have az := h
    obtain ⟨V, W, Z, rfl⟩ := C.shape
    have h := az
    obtain ⟨aQ, h, aA⟩ := bnd h
    refine WC.join (σ := (Int × List UInt64 × Own × Value)) (fun x w' => (x.1, x.2.1) = aQ ∧ Stp [12] ac ay x.2.2.1 w' ∧ Sl Rep.u w' (imm x.2.2.1) x.2.2.2 x.2.1 ∧ Blk 12 x.2.2.1 w' n 28 [vi x.1, x.2.2.2]) (fun x => [(2, pt m 0), (3, pt n 0)]) ?_ ?_
    ·refine sq (rg (wY (yf fo28_1 z) z ?_))
     have L := F.st j z
     refine wY (yl ty26 z z (L.cell 1 _ z)) z ?_
     have aC := r.i c z z
     have ad := aC.i j z z
     refine wY (Y.len ty26 z ad) z (wY (Y.eql_i z z) z (nl (th ?_)))
     rcases cnd h with ⟨M, h⟩ | ⟨M, h⟩
     ·refine WC.condT' z M (rg (wY (yL ty28 z z (K.cells 0 [vi U, (Value.slice V W Z)] z) z) z (WL.store (v := ag [vi U, (Value.slice V W Z)]) (cells' := [vi U, (Value.slice V W Z)]) ty28 z z L z (le_ z) z z ?_)))
      intro aT aa aD
      refine nl ?_
      have aE := C.i aa z z
      exact At.join (σ := (Int × List UInt64 × Own × Value)) (U, aP, ac, (Value.slice V W Z)) ⟨some1 h, (su_ aa z), aE, aD⟩ (.cons z (.cons z .nil))
     ·refine WC.condF' z M (sk ?_)
      exact At.join (σ := (Int × List UInt64 × Own × Value)) (a1.Offset, a1.Counts, ac, (Value.slice o p q)) ⟨some1 h, (sr_ _ _ _), ad, L⟩ (.cons z (.cons z .nil))
    ·rintro ⟨aX, aY, ak, aZ⟩ aU ⟨rfl, l, ae, af⟩
     replace h := aA
     try dsimp only at h l ae af
     refine (show At _ _ _ [(2, pt m 0), (3, pt n 0)] _ from ?_)
     refine th (sq (WC.draw 21 ak fmix (by kernel_rfl) ?_))
     intro aF d
     refine WS.y (yf fo28_0 z) z ?_
     have aG := K.st l z
     have P := aG.st d z
     refine WS.y (yl ty3 z z (P.cell 0 _ z)) z (WS.y (yf fo28_0 z) z ?_)
     have Q := af.st d z
     refine WS.y (yl ty3 z z (Q.cell 0 _ z)) z (WS.y (Y.min_i z z) z (WS.y (yf fo28_0 z) z (WS.y (yl ty3 z z (P.cell 0 _ z)) z (WS.y (yf fo28_1 z) z (WS.y (yl ty26 z z (P.cell 1 _ z)) z ?_)))))
     have aH := C.i l z z
     have aI := aH.i d z z
     refine WS.y (Y.len ty26 z aI) z (WS.y (Y.add_i z z) z (WS.y (yf fo28_0 z) z (WS.y (yl ty3 z z (Q.cell 0 _ z)) z (WS.y (yf fo28_1 z) z (WS.y (yl ty26 z z (Q.cell 1 _ z)) z ?_)))))
     have aJ := ae.i d z z
     refine WS.y (Y.len ty26 z aJ) z (WS.y (Y.add_i z z) z (WS.y (Y.max_i z z) z (WS.y (Y.sub_i z z) z ?_)))
     obtain ⟨a2, aK, h⟩ := lt1 h
     refine WS.yE (ya z) (congrArg vi aK.symm) z ?_
     obtain ⟨a3, aL, h⟩ := lt1 h
     refine WS.yE (ya z) (congrArg vi aL.symm) z (WS.tail (wY (ya z) z (nl (th (rt ?_)))))
     obtain ⟨rfl, rfl, rfl⟩ := tup3 h
     have aM : Stp [11, 12] (Lg.O0 A) w ak aF := (tr_ (su_ e z) (tr_ (su_ c z) (tr_ (su_ j z) (tr_ (su_ l z) (su_ d z)))))
     exact At.res (.inl z) z (.tmp z (.tmp z (.tmp z .nil))) ⟨z, (se_ aM z z)⟩
theorem c_ref09_At {A : Nat → Prop} {v0_1 : Value} {a0 : api_Side} {a1 : Int} {w : World} (hs0_1 : Sl Rep.u w A v0_1 a0.Counts) {r0 : UInt64} (h : ref09_At a0 a1 = some r0) : Rets Try.prog 109 [ag [vi a0.Offset, v0_1], vi a1] w (fun v w' => v = vu r0 ∧ Ext w w') := by
 unfold ref09_At at h
 refine Rets.enter Try.func109 z z ?_
 have e : Sl Rep.u w (imm (Lg.O0 A)) v0_1 a0.Counts := (Sl.start hs0_1)
 refine (show WC _ _ _ _ [(0, ag [vi a0.Offset, v0_1]), (1, vi a1)] _ from ?_)
 refine sq (rg ?_)
 have t := h
 obtain ⟨M, P, Q, rfl⟩ := e.shape
 have h := t
 refine WL.box (O := (Lg.O0 A)) 11 [vi a0.Offset, (Value.slice M P Q)] z z z ?_
 intro q r j c d
 refine wY (ya (v := vu 0) z) z (nl (th (sq (sq (rg (wY (ym z) z (wY (yf fo28_0 z) z (wY (yl ty3 z z (d.cell 0 _ z)) z (wY (Y.lss_i z z) z ?_)))))))))
 refine wY (ym z) z ?_
 refine WL.cut 9 (σ := Unit) (fun _ w' => j = w') (fun _ => [(1, vi a1), (2, pt q 0), (18, vB ((decide (a1 < a0.Offset)) || (decide (w64 (a0.Offset + (a0.Counts.length : Int)) ≤ a1))))]) ?_ ?_
 ·refine WL.part 9 z (fun l => ?_) (fun l => ?_)
  ·refine WL.gS z z z z (WL.gS z z z z (WL.gS z z z z (WL.gS z z z z (WL.gS z z z z (WL.gS z z z z (WL.gS z z z z (WL.gS z z z z (wY (Y.pick (b := true) z z) z (WL.ren (v' := vB ((decide (a1 < a0.Offset)) || (decide (w64 (a0.Offset + (a0.Counts.length : Int)) ≤ a1)))) 18 z (congrArg vB (orT l)) ?_)))))))))
   exact nl (At.join () z (.cons z (.cons z (.cons z .nil))))
  ·refine ug z z (wY (ym z) z (ug z z (wY (yf fo28_0 z) z (ug z z (wY (yl ty3 z z (d.cell 0 _ z)) z (ug z z (wY (yf fo28_1 z) z (ug z z (wY (yl ty26 z z (d.cell 1 _ z)) z ?_)))))))))
   refine ug z z ?_
   have C := e.i c z z
   refine wY (Y.len ty26 z C) z (ug z z (wY (Y.add_i z z) z (ug z z (wY (Y.geq_i z z) z (wY (Y.pick (b := false) z z) z (WL.ren (v' := vB ((decide (a1 < a0.Offset)) || (decide (w64 (a0.Offset + (a0.Counts.length : Int)) ≤ a1)))) 18 z (congrArg vB (orF l)) ?_))))))
   exact nl (At.join () z (.cons z (.cons z (.cons z .nil))))
 ·rintro _ _ rfl
  refine (show WL _ _ _ _ _ [(1, vi a1), (2, pt q 0), (18, vB ((decide (a1 < a0.Offset)) || (decide (w64 (a0.Offset + (a0.Counts.length : Int)) ≤ a1))))] _ from ?_)
  refine nl (th ?_)
  rcases cnd h with ⟨m, h⟩ | ⟨m, h⟩
  ·refine WC.condT' z m (sq (rg (wY (ya (v := vu 0) z) z (nl (th (rt (At.thenR ?_)))))))
   obtain rfl := some1 h
   have D : Stp [] (Lg.O0 A) w r j := (su_ c z)
   exact At.res (.inl z) z (.tmp z .nil) ⟨z, (se_ D z z)⟩
  ·refine WC.condF' z m (sk (th (sq (rg (wY (yf fo28_1 z) z (wY (yl ty26 z z (d.cell 1 _ z)) z (wY (ym z) z (wY (yf fo28_0 z) z (wY (yl ty3 z z (d.cell 0 _ z)) z ?_)))))))))
   refine wY (Y.sub_i z z) z ?_
   obtain ⟨S, F, h⟩ := bnd h
   have G := e.i c z z
   obtain ⟨W, T, U, V, H, I, J, n, o, K⟩ := Sl.at2 G F
   obtain rfl := o
   replace n : CellsAt _ _ _ [vu S] := n
   have p := CAt.imm n K
   refine wY (Y.indexAddr ty26 ty25 z H z I J) z (wY (yl ty25 z z p.at_) z (wY (ya z) z (nl (th (rt ?_)))))
   obtain rfl := some1 h
   have L : Stp [] (Lg.O0 A) w r j := (su_ c z)
   exact At.res (.inl z) z (.tmp z .nil) ⟨z, (se_ L z z)⟩
theorem c_ref09_both {A : Nat → Prop} {v0_1 : Value} {a0 : api_Side} {v1_1 : Value} {a1 : api_Side} {w : World} (hs0_1 : Sl Rep.u w A v0_1 a0.Counts) (hs1_1 : Sl Rep.u w A v1_1 a1.Counts) {r0 : api_Side} {r1 : Bool} (h : ref09_both a0 a1 = some (r0, r1)) : Rets Try.prog 86 [ag [vi a0.Offset, v0_1], ag [vi a1.Offset, v1_1]] w (fun v w' => ∃ (ao : Value), v = Value.tuple (List.toArray [ag [vi r0.Offset, ao], vB r1]) ∧ Ext w w' ∧ Sl Rep.u w' (fun k => w.heap.size ≤ k) ao r0.Counts) := by
 unfold ref09_both at h
 refine Rets.enter Try.func86 z z ?_
 have ap : Sl Rep.u w (imm (Lg.O0 A)) v0_1 a0.Counts := (Sl.start hs0_1)
 have bR : Sl Rep.u w (imm (Lg.O0 A)) v1_1 a1.Counts := (Sl.start hs1_1)
 refine (show WC _ _ _ _ [(0, ag [vi a0.Offset, v0_1]), (1, ag [vi a1.Offset, v1_1])] _ from ?_)
 refine sq (rg ?_)
 have bS := h
 obtain ⟨P, Q, S, rfl⟩ := ap.shape
 have h := bS
 refine WL.box (O := (Lg.O0 A)) 11 [vi a0.Offset, (Value.slice P Q S)] z z z ?_
 intro bL co cI q bT
 have aq := bR.i q z z
 have bU := h
 obtain ⟨T, U, V, rfl⟩ := aq.shape
 have h := bU
 refine WL.box (O := co) 12 [vi a1.Offset, (Value.slice T U V)] z z z ?_
 intro bM cp cJ n bW
 refine WL.alloc (O := cp) 13 [vi 0, Value.slice none 0 0] ty28 z z ?_
 intro al cq cK e ab
 refine wY (ya z) z (nl (th (sq (rg ?_))))
 have bX := bT.st n z
 have ar := bX.st e z
 refine wY (yL ty28 z z (ar.cells 0 [vi a0.Offset, (Value.slice P Q S)] z) z) z ?_
 have au := bW.st e z
 refine wY (yL ty28 z z (au.cells 0 [vi a1.Offset, (Value.slice T U V)] z) z) z ?_
 have bY := ap.i q z z
 have bZ := bY.i n z z
 have av := bZ.i e z z
 have b0 := aq.i n z z
 have aw := b0.i e z z
 obtain ⟨⟨l, ax, cX⟩, b1, h⟩ := bnd h
 refine WL.call (vals := [ag [vi a0.Offset, (Value.slice P Q S)], ag [vi a1.Offset, (Value.slice T U V)]]) kok108 z z (c_ref09_reach (A := fun _ => True) (a0 := a0) (a1 := a1) (Sl.all av) (Sl.all aw) b1) ?_
 rintro cL cM ⟨rfl, b2⟩
 obtain ⟨ay, cr, cs, c⟩ := adoptE cq (fun k => 1) b2
 refine wY (ym z) z (wY (yx z z) z (wY (yx z z) z (wY (yx z z) z (wY (ya z) z (wY (ya z) z (wY (ya z) z (nl (th (sq ?_)))))))))
 refine sq (rg (wY (ym z) z (wY (Y.not z) z (nl (th ?_)))))
 rcases cnd h with ⟨ac, h⟩ | ⟨ac, h⟩
 ·refine WC.condT' z ac (sq (rg (wY (yb (vals := []) (cells := [vi 0, Value.slice none 0 0]) (fe_ z) (by kernel_rfl)) z ?_)))
  have b3 := ab.st c z
  refine WL.store (v := ag [vi 0, Value.slice none 0 0]) (cells' := [vi 0, Value.slice none 0 0]) ty28 z z b3 z (le_ z) z z ?_
  intro b4 aJ b5
  refine wY (ya z) z (nl (th (rt (At.thenR ?_))))
  obtain ⟨rfl, rfl⟩ := tup2 h
  have b6 : Stp [13] (Lg.O0 A) w ay b4 := (tr_ (su_ q z) (tr_ (su_ n z) (tr_ (su_ e z) (tr_ (su_ c z) (su_ aJ z)))))
  exact At.res (.inl z) z (.cell z (b5.runAg 0 [vi 0, Value.slice none 0 0] ty28 z z z) (.tmp z .nil)) ⟨Value.slice none 0 0, z, (se_ b6 z z), (Or.inl ⟨z, z⟩)⟩
 ·refine WC.condF' z ac (sk (th (sq (sq (rg (wY (ym z) z (wY (ym z) z (wY (Y.sub_i z z) z (wY (Y.geq_i z z) z ?_)))))))))
  refine nl (th ?_)
  rcases cnd h with ⟨ad, h⟩ | ⟨ad, h⟩
  ·refine WC.condT' z ad (sq (rg (wY (yb (vals := []) (cells := [vi 0, Value.slice none 0 0]) (fe_ z) (by kernel_rfl)) z ?_)))
   have b7 := ab.st c z
   refine WL.store (v := ag [vi 0, Value.slice none 0 0]) (cells' := [vi 0, Value.slice none 0 0]) ty28 z z b7 z (le_ z) z z ?_
   intro b8 aK b9
   refine wY (ya z) z (nl (th (rt (At.thenR ?_))))
   obtain ⟨rfl, rfl⟩ := tup2 h
   have ca : Stp [13] (Lg.O0 A) w ay b8 := (tr_ (su_ q z) (tr_ (su_ n z) (tr_ (su_ e z) (tr_ (su_ c z) (su_ aK z)))))
   exact At.res (.inl z) z (.cell z (b9.runAg 0 [vi 0, Value.slice none 0 0] ty28 z z z) (.tmp z .nil)) ⟨Value.slice none 0 0, z, (se_ ca z z), (Or.inl ⟨z, z⟩)⟩
  ·refine WC.condF' z ad (sk (th (sq (rg (wY (ym z) z (wY (yb (vals := [(0, vi l)]) (cells := [vi l, Value.slice none 0 0]) (fe_ z) (by kernel_rfl)) z (WL.alloc (O := ay) 14 [vi 0, Value.slice none 0 0] ty28 z z ?_)))))))
   intro F az cN o cb
   refine WL.store (v := ag [vi l, Value.slice none 0 0]) (cells' := [vi l, Value.slice none 0 0]) ty28 z z cb z (le_ z) z z ?_
   intro aA p cc
   refine nl (th (sq (sq (rg (wY (ym z) z (wY (ya z) z (nl (th (WC.block ?_)))))))))
   obtain ⟨bO, h, cd⟩ := flow1 h
   obtain ⟨bP, h⟩ := loop_some h
   refine WC.joinB 0 (σ := (List UInt64 × Own × Value)) (fun x w' => bO = .go x.1 ∧ Stp [14, 16, 1001] az aA x.2.1 w' ∧ OwnSl 1002 Rep.u 25 x.2.1 w' x.2.2 x.1 ∧ Blk 14 x.2.1 w' F 28 [vi l, x.2.2]) (fun x => [(4, pt al 0), (9, pt F 0)]) ?_ ?_
   ·refine WC.loop (σ := (List UInt64 × Int × Own × Value)) (fun x k w' => loopN k (ref09_both_lp1 a0 a1 ax) (x.1, x.2.1) = some bO ∧ Stp [14, 16, 1001] az aA x.2.2.1 w' ∧ OwnSl 1001 Rep.u 25 x.2.2.1 w' x.2.2.2 x.1 ∧ Blk 14 x.2.2.1 w' F 28 [vi l, x.2.2.2]) (fun x => [(2, pt bL 0), (3, pt bM 0), (4, pt al 0), (7, vi ax), (9, pt F 0), (10, vi x.2.1)]) ([], l, az, Value.slice none 0 0) bP (.cons z (.cons z (.cons z (.cons z (.cons z (.cons z .nil)))))) ⟨h, (sr_ _ _ _), (OwnSl.nil 1001 Rep.u 25), cc⟩ ?_
    rintro ⟨ct, aC, bQ, cu⟩ bP cO ⟨h, j, ae, G⟩
    obtain ⟨cv, cY, rfl, h, aD⟩ := rnd1 h
    unfold ref09_both_lp1 at h
    try dsimp only at h j ae G
    refine (show WC _ _ _ _ [(2, pt bL 0), (3, pt bM 0), (4, pt al 0), (7, vi ax), (9, pt F 0), (10, vi aC)] _ from ?_)
    refine sq (sq (rg (wY (ym z) z (wY (ym z) z (wY (Y.leq_i z z) z (nl (th ?_)))))))
    rcases cnd h with ⟨af, h⟩ | ⟨af, h⟩
    ·refine WC.condT' z af (sk (th (sq (WC.block (WC.drawH [1001] [0, 1, 2, 3, 4, 5, 6, 7, 8, 9, 10, 11] bQ 13 fmix z (by kernel_rfl) ?_)))))
     intro cP d
     refine WD.y 0 z (by kernel_rfl) (fun _ _ _ => yf fo28_1 z) z (WD.y 1 z (by kernel_rfl) (fun cx cQ aE => have aL := G.st d z; have aM := aL.st aE z; yl ty26 z z (aM.cell 1 _ z)) z (WD.y 2 z (by kernel_rfl) (fun cy cR aF => have aN := ar.st c z; have aO := aN.st o z; have aP := aO.st p z; have aQ := aP.st j z; have aR := aQ.st d z; have aS := aR.st aF z; yL ty28 z z (aS.cells 0 [vi a0.Offset, (Value.slice P Q S)] z) z) z (WD.y 3 z (by kernel_rfl) (fun _ _ _ => ym z) z (WD.y 5 z (by kernel_rfl) (fun cz cS aG => have aT := au.st c z; have aU := aT.st o z; have aW := aU.st p z; have aX := aW.st j z; have aY := aX.st d z; have aZ := aY.st aG z; yL ty28 z z (aZ.cells 0 [vi a1.Offset, (Value.slice T U V)] z) z) z (WD.y 6 z (by kernel_rfl) (fun _ _ _ => ym z) z (WD.heavy 4 z (by kernel_rfl) ?_))))))
     have a2 := av.i c z z
     have a3 := a2.i o z z
     have a4 := a3.i p z z
     have a5 := a4.i j z z
     have a6 := a5.i d z z
     obtain ⟨H, a7, h⟩ := bnd h
     refine WL.call (vals := [ag [vi a0.Offset, (Value.slice P Q S)], vi aC]) kok109 z z (c_ref09_At (A := fun _ => True) (a0 := a0) (Sl.all a6) a7) ?_
     rintro cA cC ⟨rfl, a8⟩
     obtain ⟨ce, ck, cl, m⟩ := adoptE bQ (fun k => 1) a8
     refine nl (At.dq (su_ m z) (WD.heavy 7 z (by kernel_rfl) ?_))
     have a9 := aw.i c z z
     have ba := a9.i o z z
     have bb := ba.i p z z
     have bc := bb.i j z z
     have bd := bc.i d z z
     have bf := bd.i m z z
     obtain ⟨I, bg, h⟩ := bnd h
     refine WL.call (vals := [ag [vi a1.Offset, (Value.slice T U V)], vi aC]) kok109 z z (c_ref09_At (A := fun _ => True) (a0 := a1) (Sl.all bf) bg) ?_
     rintro cD cE ⟨rfl, bh⟩
     obtain ⟨cf, cm, cn, r⟩ := adoptE ce (fun k => 1) bh
     refine nl (At.dq (su_ r z) (WD.y 8 z (by kernel_rfl) (fun _ _ _ => Y.add_u z z) z (WD.heavy 9 z (by kernel_rfl) (WL.buildSlice (O := cf) (R := Rep.u) (vals := [(0, vu (H + I))]) 15 [vu (H + I)] (xs := [(H + I)]) (by decide) ty26 ty25 (by decide) (by decide) (fe_ z) (by kernel_rfl) z ⟨[vu (H + I)], [], z, z, z⟩ z ?_))))
     intro cT cU cF t bi
     refine nl (At.dq (su_ t z) (WD.heavy 10 z (by kernel_rfl) ?_))
     obtain ⟨bj, aH, h⟩ := bnd h
     have bk := ae.st d z z z
     have bl := bk.st m z z z
     have bm := bl.st r z z z
     have bn := bm.st t z z z
     refine WL.append (by decide) ty26 ty25 z (by decide) z z bn bi.src aH z ?_
     intro cV cg cG C am
     refine nl (At.dq (su_ C z) (WD.y 11 z (by kernel_rfl) (fun _ _ _ => yf fo28_1 z) z (WD.phase [14] [0, 1, 2, 3, 4, 5, 6, 7, 8, 9, 10, 11, 12] (by kernel_rfl) (by kernel_rfl) (WD.heavy 12 z (by kernel_rfl) ?_))))
     have bo := h
     obtain ⟨ah, ai, aj, rfl⟩ := am.shape
     have h := bo
     have bp := G.st d z
     have bq := bp.st m z
     have br := bq.st r z
     have bs := br.st t z
     have bt := bs.st C z
     refine WL.store (v := (Value.slice ah ai aj)) (cells' := [vi l, (Value.slice ah ai aj)]) ty26 z z bt z (le_ z) z z ?_
     intro cH D bu
     refine nl (At.dq (su_ D z) (WD.done_ (by kernel_rfl) (At.inBlock (th (rg (wY (ym z) z (wY (Y.add_i z z) z ?_)))))))
     obtain ⟨ch, bw, h⟩ := lt1 h
     refine WL.yE (ya z) (congrArg vi bw.symm) z (nl ?_)
     have bx := am.st D z z z
     exact At.round (bj, ch, cg, (Value.slice ah ai aj)) cv (Nat.lt_succ_self _) ⟨next1 h aD, (tr_ (su_ j z) (tr_ (su_ d z) (tr_ (su_ m z) (tr_ (su_ r z) (tr_ (su_ t z) (tr_ (su_ C z) (su_ D z))))))), bx, bu⟩ (.cons z (.cons z (.cons z (.cons z (.cons z (.cons z .nil))))))
    ·refine WC.condF' z af (WC.exit (At.thenX (At.loopX ?_)))
     obtain ⟨ci, W, bz⟩ := OwnSl.rlb 1002 rfl ae
     have bA := G.st W z
     exact At.hitB (σ := (List UInt64 × Own × Value)) (ct, ci, cu) ⟨brk1 h aD, (tr_ (su_ j z) (su_ W z)), bz, bA⟩ (.cons z (.cons z .nil))
   ·rintro ⟨cZ, c0, cw⟩ cW ⟨rfl, J, ak, aI⟩
    replace h := flowK_go cd
    try dsimp only at h J ak aI
    refine (show At _ _ _ [(4, pt al 0), (9, pt F 0)] _ from ?_)
    refine At.inBlockHit (th (sq (rg (wY (yL ty28 z z (aI.cells 0 [vi l, cw] z) z) z ?_))))
    have bB := h
    obtain ⟨K, L, M, rfl⟩ := ak.shape
    have h := bB
    have bC := ab.st c z
    have bD := bC.st o z
    have bE := bD.st p z
    have bF := bE.st J z
    refine WL.store (v := ag [vi l, (Value.slice K L M)]) (cells' := [vi l, (Value.slice K L M)]) ty28 z z bF z (le_ z) z z ?_
    intro bG Z bH
    refine wY (ya z) z (nl (th (rt ?_)))
    obtain ⟨rfl, rfl⟩ := tup2 h
    have bI := ak.st Z z z z
    obtain ⟨cj, aa, bJ⟩ := OwnSl.giveF rfl Flat.u bI
    have an : Stp [13, 14, 16, 1001, 1002] (Lg.O0 A) w cj bG := (tr_ (su_ q z) (tr_ (su_ n z) (tr_ (su_ e z) (tr_ (su_ c z) (tr_ (su_ o z) (tr_ (su_ p z) (tr_ (su_ J z) (tr_ (su_ Z z) (su_ aa z)))))))))
    have bK := bH.st aa z
    exact At.res (.inl z) z (.cell z (bK.runAg 0 [vi l, (Value.slice K L M)] ty28 z z z) (.tmp z .nil)) ⟨(Value.slice K L M), z, (se_ an z z), (Sl.outF bJ an low0)⟩
theorem c_ref09_Merge {A : Nat → Prop} {v0_3 : Value} {v0_5 : Value} {a0 : api_Hist} {v1_3 : Value} {v1_5 : Value} {a1 : api_Hist} {w : World} (hs0_3 : Sl Rep.u w A v0_3 a0.Pos.Counts) (hs0_5 : Sl Rep.u w A v0_5 a0.Neg.Counts) (hs1_3 : Sl Rep.u w A v1_3 a1.Pos.Counts) (hs1_5 : Sl Rep.u w A v1_5 a1.Neg.Counts) {r0 : api_Hist} {r1 : Int} (h : ref09_Merge a0 a1 = some (r0, r1)) : Rets Try.prog 55 [ag [vi a0.Scale, vu a0.Zero, vi a0.Pos.Offset, v0_3, vi a0.Neg.Offset, v0_5], ag [vi a1.Scale, vu a1.Zero, vi a1.Pos.Offset, v1_3, vi a1.Neg.Offset, v1_5]] w (fun v w' => ∃ (aL : Value) (aM : Value), v = Value.tuple (List.toArray [ag [vi r0.Scale, vu r0.Zero, vi r0.Pos.Offset, aL, vi r0.Neg.Offset, aM], vi r1]) ∧ Ext w w' ∧ Sl Rep.u w' (fun k => w.heap.size ≤ k) aL r0.Pos.Counts ∧ Sl Rep.u w' (fun k => w.heap.size ≤ k) aM r0.Neg.Counts) := by
 unfold ref09_Merge at h
 refine Rets.enter Try.func55 z z ?_
 have aN : Sl Rep.u w (imm (Lg.O0 A)) v0_3 a0.Pos.Counts := (Sl.start hs0_3)
 have aO : Sl Rep.u w (imm (Lg.O0 A)) v0_5 a0.Neg.Counts := (Sl.start hs0_5)
 have cW : Sl Rep.u w (imm (Lg.O0 A)) v1_3 a1.Pos.Counts := (Sl.start hs1_3)
 have cX : Sl Rep.u w (imm (Lg.O0 A)) v1_5 a1.Neg.Counts := (Sl.start hs1_5)
 refine (show WC _ _ _ _ [(0, ag [vi a0.Scale, vu a0.Zero, vi a0.Pos.Offset, v0_3, vi a0.Neg.Offset, v0_5]), (1, ag [vi a1.Scale, vu a1.Zero, vi a1.Pos.Offset, v1_3, vi a1.Neg.Offset, v1_5])] _ from ?_)
 refine sq (rg ?_)
 have cY := h
 obtain ⟨aP, aQ, aR, rfl⟩ := aN.shape
 have h := cY
 have cZ := h
 obtain ⟨aS, aT, aU, rfl⟩ := aO.shape
 have h := cZ
 refine WL.box (O := (Lg.O0 A)) 11 [vi a0.Scale, vu a0.Zero, vi a0.Pos.Offset, (Value.slice aP aQ aR), vi a0.Neg.Offset, (Value.slice aS aT aU)] z z z ?_
 intro ed dF d3 D c0
 have aW := cW.i D z z
 have c1 := h
 obtain ⟨aX, aY, aZ, rfl⟩ := aW.shape
 have h := c1
 have a2 := cX.i D z z
 have c2 := h
 obtain ⟨a3, a4, a5, rfl⟩ := a2.shape
 have h := c2
 refine WL.box (O := dF) 12 [vi a1.Scale, vu a1.Zero, vi a1.Pos.Offset, (Value.slice aX aY aZ), vi a1.Neg.Offset, (Value.slice a3 a4 a5)] z z z ?_
 intro ee dG d4 r c3
 refine WL.alloc (O := dG) 13 [vi 0, vu 0, vi 0, Value.slice none 0 0, vi 0, Value.slice none 0 0] ty30 z z ?_
 intro cU dH d5 m ak
 refine wY (ya z) z (nl (th (sq (rg ?_))))
 have c4 := c0.st r z
 have c5 := c4.st m z
 refine wY (yL ty30 z z (c5.cells 0 [vi a0.Scale, vu a0.Zero, vi a0.Pos.Offset, (Value.slice aP aQ aR), vi a0.Neg.Offset, (Value.slice aS aT aU)] z) z) z ?_
 have c6 := c3.st m z
 refine wY (yL ty30 z z (c6.cells 0 [vi a1.Scale, vu a1.Zero, vi a1.Pos.Offset, (Value.slice aX aY aZ), vi a1.Neg.Offset, (Value.slice a3 a4 a5)] z) z) z ?_
 have c7 := aN.i D z z
 have c8 := c7.i r z z
 have c9 := c8.i m z z
 have da := aO.i D z z
 have db := da.i r z z
 have dc := db.i m z z
 have dd := aW.i r z z
 have de := dd.i m z z
 have df := a2.i r z z
 have dg := df.i m z z
 obtain ⟨c, dh, h⟩ := bnd h
 refine WL.call (vals := [ag [vi a0.Scale, vu a0.Zero, vi a0.Pos.Offset, (Value.slice aP aQ aR), vi a0.Neg.Offset, (Value.slice aS aT aU)], ag [vi a1.Scale, vu a1.Zero, vi a1.Pos.Offset, (Value.slice aX aY aZ), vi a1.Neg.Offset, (Value.slice a3 a4 a5)]]) kok53 z z (c_ref09_Level (A := fun _ => True) (a0 := a0) (a1 := a1) (Sl.all c9) (Sl.all dc) (Sl.all de) (Sl.all dg) dh) ?_
 rintro d6 al ⟨dI, dJ, dK, dL, rfl, di, dM, dN, dO, dP⟩
 obtain ⟨ay, dQ, Q, F⟩ := adoptE dH (fun k => 1) di
 have dj : Sl Rep.u al (frs ay) dI c.X.Pos.Counts := Sl.adoptF dM (fun k hk => ⟨hk, z⟩) Q
 have dk : Sl Rep.u al (frs ay) dJ c.X.Neg.Counts := Sl.adoptF dN (fun k hk => ⟨hk, z⟩) Q
 have dl : Sl Rep.u al (frs ay) dK c.Y.Pos.Counts := Sl.adoptF dO (fun k hk => ⟨hk, z⟩) Q
 have dm : Sl Rep.u al (frs ay) dL c.Y.Neg.Counts := Sl.adoptF dP (fun k hk => ⟨hk, z⟩) Q
 refine WL.alloc (O := ay) 14 [vi 0, vu 0, vi 0, Value.slice none 0 0, vi 0, Value.slice none 0 0, vi 0, vu 0, vi 0, Value.slice none 0 0, vi 0, Value.slice none 0 0, vi 0] ty83 z z ?_
 intro cV a6 d7 l dn
 have a7 := dj.f l z
 have dp := h
 obtain ⟨ab, ac, ad, rfl⟩ := a7.shape
 have h := dp
 have a8 := dk.f l z
 have dr := h
 obtain ⟨ae, af, ah, rfl⟩ := a8.shape
 have h := dr
 have a9 := dl.f l z
 have bk := h
 obtain ⟨ai, aj, S, rfl⟩ := a9.shape
 have h := bk
 have aA := dm.f l z
 have bl := h
 obtain ⟨T, U, V, rfl⟩ := aA.shape
 have h := bl
 refine WL.store (v := ag [vi c.X.Scale, vu c.X.Zero, vi c.X.Pos.Offset, (Value.slice ab ac ad), vi c.X.Neg.Offset, (Value.slice ae af ah), vi c.Y.Scale, vu c.Y.Zero, vi c.Y.Pos.Offset, (Value.slice ai aj S), vi c.Y.Neg.Offset, (Value.slice T U V), vi c.E]) (cells' := [vi c.X.Scale, vu c.X.Zero, vi c.X.Pos.Offset, (Value.slice ab ac ad), vi c.X.Neg.Offset, (Value.slice ae af ah), vi c.Y.Scale, vu c.Y.Zero, vi c.Y.Pos.Offset, (Value.slice ai aj S), vi c.Y.Neg.Offset, (Value.slice T U V), vi c.E]) ty83 z z dn z (le_ z) z z ?_
 intro dR d W
 refine nl (th (sq (sq (rg (wY (yf fo83_2 z) z (wY (yl ty38 z z (W.cell 12 _ z)) z (wY (Y.neq_i z z) z (nl (th ?_)))))))))
 rcases cnd h with ⟨am, h⟩ | ⟨am, h⟩
 ·refine WC.condT' z am (sq (WC.drawH [13] [0, 1, 2, 3, 4] a6 5 fmix z (by kernel_rfl) ?_))
  intro dS Z
  refine WD.y 0 z (by kernel_rfl) (fun _ _ _ => yb (vals := []) (cells := [vi 0, vu 0, vi 0, Value.slice none 0 0, vi 0, Value.slice none 0 0]) (fe_ z) (by kernel_rfl)) z (WD.y 1 z (by kernel_rfl) (fun _ _ _ => yf fo83_2 z) z (WD.y 2 z (by kernel_rfl) (fun dT d8 ba => have bm := W.st Z z; have bn := bm.st ba z; yl ty38 z z (bn.cell 12 _ z)) z (WD.heavy 3 z (by kernel_rfl) ?_)))
  have bo := ak.st F z
  have bp := bo.st l z
  have bq := bp.st d z
  have br := bq.st Z z
  refine WL.store (v := ag [vi 0, vu 0, vi 0, Value.slice none 0 0, vi 0, Value.slice none 0 0]) (cells' := [vi 0, vu 0, vi 0, Value.slice none 0 0, vi 0, Value.slice none 0 0]) ty30 z z br z (le_ z) z z ?_
  intro bs az bt
  refine nl (At.dq (su_ az z) (WD.y 4 z (by kernel_rfl) (fun _ _ _ => ya z) z (WD.done_ (by kernel_rfl) (th (rt (At.thenR ?_))))))
  obtain ⟨rfl, rfl⟩ := tup2 h
  have bu : Stp [13, 14] (Lg.O0 A) w a6 bs := (tr_ (su_ D z) (tr_ (su_ r z) (tr_ (su_ m z) (tr_ (su_ F z) (tr_ (su_ l z) (tr_ (su_ d z) (tr_ (su_ Z z) (su_ az z))))))))
  exact At.res (.inl z) z (.cell z (bt.runAg 0 [vi 0, vu 0, vi 0, Value.slice none 0 0, vi 0, Value.slice none 0 0] ty30 z z z) (.tmp z .nil)) ⟨Value.slice none 0 0, Value.slice none 0 0, z, (se_ bu z z), (Or.inl ⟨z, z⟩), (Or.inl ⟨z, z⟩)⟩
 ·refine WC.condF' z am (sk (th (sq (rg (wY (yf fo83_0 z) z (wY (yL ty30 z z (W.cells 0 [vi c.X.Scale, vu c.X.Zero, vi c.X.Pos.Offset, (Value.slice ab ac ad), vi c.X.Neg.Offset, (Value.slice ae af ah)] z) z) z ?_))))))
  have aC := a7.f d z
  have aD := a8.f d z
  obtain ⟨⟨d9, ea⟩, bw, h⟩ := bnd h
  refine WL.call (vals := [ag [vi c.X.Scale, vu c.X.Zero, vi c.X.Pos.Offset, (Value.slice ab ac ad), vi c.X.Neg.Offset, (Value.slice ae af ah)]]) kok85 z z (c_ref08_Total (A := fun _ => True) (a0 := c.X) (Sl.all aC) (Sl.all aD) bw) ?_
  rintro dU dV ⟨rfl, bx⟩
  obtain ⟨ds, dz, dA, e⟩ := adoptE a6 (fun k => 1) bx
  refine wY (ym z) z (wY (yx z z) z (wY (yx z z) z (wY (ya z) z (wY (ya z) z (nl (th (sq (rg (wY (yf fo83_1 z) z ?_)))))))))
  have aE := W.st e z
  refine wY (yL ty30 z z (aE.cells 6 [vi c.Y.Scale, vu c.Y.Zero, vi c.Y.Pos.Offset, (Value.slice ai aj S), vi c.Y.Neg.Offset, (Value.slice T U V)] z) z) z ?_
  have bz := a9.f d z
  have aF := bz.f e z
  have bA := aA.f d z
  have aG := bA.f e z
  obtain ⟨⟨eb, ec⟩, bB, h⟩ := bnd h
  refine WL.call (vals := [ag [vi c.Y.Scale, vu c.Y.Zero, vi c.Y.Pos.Offset, (Value.slice ai aj S), vi c.Y.Neg.Offset, (Value.slice T U V)]]) kok85 z z (c_ref08_Total (A := fun _ => True) (a0 := c.Y) (Sl.all aF) (Sl.all aG) bB) ?_
  rintro dW dX ⟨rfl, bC⟩
  obtain ⟨bb, dB, dC, j⟩ := adoptE ds (fun k => 1) bC
  refine wY (ym z) z (wY (yx z z) z (wY (yx z z) z (wY (ya z) z (wY (ya z) z (nl (th (sq (sq (rg ?_)))))))))
  refine wY (ym z) z (wY (ym z) z (wY (Y.sub_u (a := 18446744073709551615) z z) z (wY (Y.gtr_u z z) z (nl (th ?_)))))
  rcases cnd h with ⟨an, h⟩ | ⟨an, h⟩
  ·refine WC.condT' z an (sq (rg (wY (yb (vals := []) (cells := [vi 0, vu 0, vi 0, Value.slice none 0 0, vi 0, Value.slice none 0 0]) (fe_ z) (by kernel_rfl)) z ?_)))
   have bD := ak.st F z
   have bE := bD.st l z
   have bF := bE.st d z
   have bG := bF.st e z
   have bH := bG.st j z
   refine WL.store (v := ag [vi 0, vu 0, vi 0, Value.slice none 0 0, vi 0, Value.slice none 0 0]) (cells' := [vi 0, vu 0, vi 0, Value.slice none 0 0, vi 0, Value.slice none 0 0]) ty30 z z bH z (le_ z) z z ?_
   intro bI bc bJ
   refine wY (ya z) z (nl (th (rt (At.thenR ?_))))
   obtain ⟨rfl, rfl⟩ := tup2 h
   have bK : Stp [13, 14] (Lg.O0 A) w bb bI := (tr_ (su_ D z) (tr_ (su_ r z) (tr_ (su_ m z) (tr_ (su_ F z) (tr_ (su_ l z) (tr_ (su_ d z) (tr_ (su_ e z) (tr_ (su_ j z) (su_ bc z)))))))))
   exact At.res (.inl z) z (.cell z (bJ.runAg 0 [vi 0, vu 0, vi 0, Value.slice none 0 0, vi 0, Value.slice none 0 0] ty30 z z z) (.tmp z .nil)) ⟨Value.slice none 0 0, Value.slice none 0 0, z, (se_ bK z z), (Or.inl ⟨z, z⟩), (Or.inl ⟨z, z⟩)⟩
  ·refine WC.condF' z an (sk (th (sq (rg (wY (yf fo83_0 z) z (wY (yf fo30_2 z) z ?_))))))
   have ao := aE.st j z
   refine wY (yL ty28 z z (ao.cells 2 [vi c.X.Pos.Offset, (Value.slice ab ac ad)] z) z) z (wY (yf fo83_1 z) z (wY (yf fo30_2 z) z (wY (yL ty28 z z (ao.cells 8 [vi c.Y.Pos.Offset, (Value.slice ai aj S)] z) z) z ?_)))
   have bL := aC.f e z
   have bM := bL.f j z
   have bO := aF.f j z
   obtain ⟨⟨G, ap⟩, bP, h⟩ := bnd h
   refine WL.call (vals := [ag [vi c.X.Pos.Offset, (Value.slice ab ac ad)], ag [vi c.Y.Pos.Offset, (Value.slice ai aj S)]]) kok86 z z (c_ref09_both (A := fun _ => True) (a0 := c.X.Pos) (a1 := c.Y.Pos) (Sl.all bM) (Sl.all bO) bP) ?_
   rintro dY bQ ⟨dt, rfl, bR, du⟩
   obtain ⟨bd, dD, aJ, t⟩ := adoptE bb (fun k => 1) bR
   have bS : Sl Rep.u bQ (frs bd) dt G.Counts := Sl.adoptF du (fun k hk => ⟨hk, z⟩) aJ
   refine wY (ym z) z (wY (yx z z) z (wY (yx z z) z (WL.alloc (O := bd) 15 [vi 0, Value.slice none 0 0] ty28 z z ?_)))
   intro bf dw dZ n bT
   have aH := bS.f n z
   have bU := h
   obtain ⟨H, I, J, rfl⟩ := aH.shape
   have h := bU
   refine WL.store (v := ag [vi G.Offset, (Value.slice H I J)]) (cells' := [vi G.Offset, (Value.slice H I J)]) ty28 z z bT z (le_ z) z z ?_
   intro d0 o bW
   refine wY (ya z) z (nl (th (sq (rg (wY (yf fo83_0 z) z (wY (yf fo30_3 z) z ?_))))))
   have bX := ao.st t z
   have bY := bX.st n z
   have aq := bY.st o z
   refine wY (yL ty28 z z (aq.cells 4 [vi c.X.Neg.Offset, (Value.slice ae af ah)] z) z) z (wY (yf fo83_1 z) z (wY (yf fo30_3 z) z (wY (yL ty28 z z (aq.cells 10 [vi c.Y.Neg.Offset, (Value.slice T U V)] z) z) z ?_)))
   have bZ := aD.f e z
   have b0 := bZ.f j z
   have b1 := b0.f t z
   have b2 := b1.f n z
   have b3 := b2.f o z
   have b4 := aG.f j z
   have b5 := b4.f t z
   have b6 := b5.f n z
   have b7 := b6.f o z
   obtain ⟨⟨K, ar⟩, b8, h⟩ := bnd h
   refine WL.call (vals := [ag [vi c.X.Neg.Offset, (Value.slice ae af ah)], ag [vi c.Y.Neg.Offset, (Value.slice T U V)]]) kok86 z z (c_ref09_both (A := fun _ => True) (a0 := c.X.Neg) (a1 := c.Y.Neg) (Sl.all b3) (Sl.all b7) b8) ?_
   rintro d1 b9 ⟨dx, rfl, ca, dy⟩
   obtain ⟨bg, dE, aK, C⟩ := adoptE dw (fun k => 1) ca
   have cb : Sl Rep.u b9 (frs bg) dx K.Counts := Sl.adoptF dy (fun k hk => ⟨hk, z⟩) aK
   refine wY (ym z) z (wY (yx z z) z (wY (yx z z) z (WL.alloc (O := bg) 16 [vi 0, Value.slice none 0 0] ty28 z z ?_)))
   intro bh bi d2 p cc
   have aI := cb.f p z
   have cd := h
   obtain ⟨L, M, P, rfl⟩ := aI.shape
   have h := cd
   refine WL.store (v := ag [vi K.Offset, (Value.slice L M P)]) (cells' := [vi K.Offset, (Value.slice L M P)]) ty28 z z cc z (le_ z) z z ?_
   intro ce q cf
   refine wY (ya z) z (nl (th (sq (sq (rg (wY (ym z) z (wY (Y.not z) z (wY (ym z) z ?_))))))))
   refine WL.cut 3 (σ := Unit) (fun _ w' => ce = w') (fun _ => [(4, pt cU 0), (6, pt cV 0), (11, pt bf 0), (13, pt bh 0), (66, vB ((!ap) || (!ar)))]) ?_ ?_
   ·refine WL.part 63 z (fun au => ?_) (fun au => ?_)
    ·refine WL.gS z z z z (WL.gS z z z z (wY (Y.pick (b := true) z z) z (WL.ren (v' := vB ((!ap) || (!ar))) 66 z (congrArg vB (orT au)) ?_)))
     exact nl (At.join () z (.cons z (.cons z (.cons z (.cons z (.cons z .nil))))))
    ·refine ug z z (wY (ym z) z (ug z z (wY (Y.not z) z (wY (Y.pick (b := false) z z) z (WL.ren (v' := vB ((!ap) || (!ar))) 66 z (congrArg vB (orF au)) ?_)))))
     exact nl (At.join () z (.cons z (.cons z (.cons z (.cons z (.cons z .nil))))))
   ·rintro _ _ rfl
    refine (show WL _ _ _ _ _ [(4, pt cU 0), (6, pt cV 0), (11, pt bf 0), (13, pt bh 0), (66, vB ((!ap) || (!ar)))] _ from ?_)
    refine nl (th ?_)
    rcases cnd h with ⟨av, h⟩ | ⟨av, h⟩
    ·refine WC.condT' z av (sq (rg (wY (yb (vals := []) (cells := [vi 0, vu 0, vi 0, Value.slice none 0 0, vi 0, Value.slice none 0 0]) (fe_ z) (by kernel_rfl)) z ?_)))
     have cg := ak.st F z
     have ch := cg.st l z
     have ci := ch.st d z
     have cj := ci.st e z
     have ck := cj.st j z
     have cl := ck.st t z
     have cm := cl.st n z
     have cn := cm.st o z
     have co := cn.st C z
     have cp := co.st p z
     have cq := cp.st q z
     refine WL.store (v := ag [vi 0, vu 0, vi 0, Value.slice none 0 0, vi 0, Value.slice none 0 0]) (cells' := [vi 0, vu 0, vi 0, Value.slice none 0 0, vi 0, Value.slice none 0 0]) ty30 z z cq z (le_ z) z z ?_
     intro cr bj cs
     refine wY (ya z) z (nl (th (rt (At.thenR ?_))))
     obtain ⟨rfl, rfl⟩ := tup2 h
     have ct : Stp [13, 14, 15, 16] (Lg.O0 A) w bi cr := (tr_ (su_ D z) (tr_ (su_ r z) (tr_ (su_ m z) (tr_ (su_ F z) (tr_ (su_ l z) (tr_ (su_ d z) (tr_ (su_ e z) (tr_ (su_ j z) (tr_ (su_ t z) (tr_ (su_ n z) (tr_ (su_ o z) (tr_ (su_ C z) (tr_ (su_ p z) (tr_ (su_ q z) (su_ bj z)))))))))))))))
     exact At.res (.inl z) z (.cell z (cs.runAg 0 [vi 0, vu 0, vi 0, Value.slice none 0 0, vi 0, Value.slice none 0 0] ty30 z z z) (.tmp z .nil)) ⟨Value.slice none 0 0, Value.slice none 0 0, z, (se_ ct z z), (Or.inl ⟨z, z⟩), (Or.inl ⟨z, z⟩)⟩
    ·refine WC.condF' z av (sk (th (sq (rg (wY (yf fo83_0 z) z (wY (yf fo30_0 z) z ?_))))))
     have cu := aq.st C z
     have cv := cu.st p z
     have aw := cv.st q z
     refine wY (yl ty3 z z (aw.cell 0 _ z)) z (wY (yf fo83_0 z) z (wY (yf fo30_1 z) z (wY (yl ty25 z z (aw.cell 1 _ z)) z (wY (yf fo83_1 z) z (wY (yf fo30_1 z) z (wY (yl ty25 z z (aw.cell 7 _ z)) z (wY (Y.add_u z z) z ?_)))))))
     have cw := bW.st C z
     have cx := cw.st p z
     have cy := cx.st q z
     refine wY (yL ty28 z z (cy.cells 0 [vi G.Offset, (Value.slice H I J)] z) z) z (wY (yL ty28 z z (cf.cells 0 [vi K.Offset, (Value.slice L M P)] z) z) z (wY (yb (vals := [(0, vi c.X.Scale), (1, vu (c.X.Zero + c.Y.Zero)), (2, ag [vi G.Offset, (Value.slice H I J)]), (3, ag [vi K.Offset, (Value.slice L M P)])]) (cells := [vi c.X.Scale, vu (c.X.Zero + c.Y.Zero), vi G.Offset, (Value.slice H I J), vi K.Offset, (Value.slice L M P)]) (fe_ z) (by kernel_rfl)) z ?_))
     have cz := ak.st F z
     have cA := cz.st l z
     have cC := cA.st d z
     have cD := cC.st e z
     have cE := cD.st j z
     have cF := cE.st t z
     have cG := cF.st n z
     have cH := cG.st o z
     have cI := cH.st C z
     have cJ := cI.st p z
     have cK := cJ.st q z
     refine WL.store (v := ag [vi c.X.Scale, vu (c.X.Zero + c.Y.Zero), vi G.Offset, (Value.slice H I J), vi K.Offset, (Value.slice L M P)]) (cells' := [vi c.X.Scale, vu (c.X.Zero + c.Y.Zero), vi G.Offset, (Value.slice H I J), vi K.Offset, (Value.slice L M P)]) ty30 z z cK z (le_ z) z z ?_
     intro cL aa cM
     refine wY (ya z) z (nl (th (rt ?_)))
     obtain ⟨rfl, rfl⟩ := tup2 h
     have ax : Stp [13, 14, 15, 16] (Lg.O0 A) w bi cL := (tr_ (su_ D z) (tr_ (su_ r z) (tr_ (su_ m z) (tr_ (su_ F z) (tr_ (su_ l z) (tr_ (su_ d z) (tr_ (su_ e z) (tr_ (su_ j z) (tr_ (su_ t z) (tr_ (su_ n z) (tr_ (su_ o z) (tr_ (su_ C z) (tr_ (su_ p z) (tr_ (su_ q z) (su_ aa z)))))))))))))))
     have cN := aH.f o z
     have cO := cN.f C z
     have cP := cO.f p z
     have cQ := cP.f q z
     have cR := cQ.f aa z
     have cS := aI.f q z
     have cT := cS.f aa z
     exact At.res (.inl z) z (.cell z (cM.runAg 0 [vi c.X.Scale, vu (c.X.Zero + c.Y.Zero), vi G.Offset, (Value.slice H I J), vi K.Offset, (Value.slice L M P)] ty30 z z z) (.tmp z .nil)) ⟨(Value.slice H I J), (Value.slice L M P), z, (se_ ax z z), (Sl.outF cR ax low0), (Sl.outF cT ax low0)⟩
theorem c_ref16_Together {A : Nat → Prop} {v0_3 : Value} {v0_5 : Value} {a0 : api_Hist} {v1_3 : Value} {v1_5 : Value} {a1 : api_Hist} {a2 : Int} {w : World} (hs0_3 : Sl Rep.u w A v0_3 a0.Pos.Counts) (hs0_5 : Sl Rep.u w A v0_5 a0.Neg.Counts) (hs1_3 : Sl Rep.u w A v1_3 a1.Pos.Counts) (hs1_5 : Sl Rep.u w A v1_5 a1.Neg.Counts) {r0 : api_Hist} {r1 : Bool} (h : ref16_Together a0 a1 a2 = some (r0, r1)) : Rets Try.prog 25 [ag [vi a0.Scale, vu a0.Zero, vi a0.Pos.Offset, v0_3, vi a0.Neg.Offset, v0_5], ag [vi a1.Scale, vu a1.Zero, vi a1.Pos.Offset, v1_3, vi a1.Neg.Offset, v1_5], vi a2] w (fun v w' => ∃ (bl : Value) (bm : Value), v = Value.tuple (List.toArray [ag [vi r0.Scale, vu r0.Zero, vi r0.Pos.Offset, bl, vi r0.Neg.Offset, bm], vB r1]) ∧ Ext w w' ∧ Sl Rep.u w' (fun k => w.heap.size ≤ k) bl r0.Pos.Counts ∧ Sl Rep.u w' (fun k => w.heap.size ≤ k) bm r0.Neg.Counts) := by
 unfold ref16_Together at h
 refine Rets.enter Try.func25 z z ?_
 have bn : Sl Rep.u w (imm (Lg.O0 A)) v0_3 a0.Pos.Counts := (Sl.start hs0_3)
 have bo : Sl Rep.u w (imm (Lg.O0 A)) v0_5 a0.Neg.Counts := (Sl.start hs0_5)
 have dB : Sl Rep.u w (imm (Lg.O0 A)) v1_3 a1.Pos.Counts := (Sl.start hs1_3)
 have dC : Sl Rep.u w (imm (Lg.O0 A)) v1_5 a1.Neg.Counts := (Sl.start hs1_5)
 refine (show WC _ _ _ _ [(0, ag [vi a0.Scale, vu a0.Zero, vi a0.Pos.Offset, v0_3, vi a0.Neg.Offset, v0_5]), (1, ag [vi a1.Scale, vu a1.Zero, vi a1.Pos.Offset, v1_3, vi a1.Neg.Offset, v1_5]), (2, vi a2)] _ from ?_)
 refine sq (rg ?_)
 have dD := h
 obtain ⟨bp, bq, br, rfl⟩ := bn.shape
 have h := dD
 have dE := h
 obtain ⟨bs, bt, bu, rfl⟩ := bo.shape
 have h := dE
 refine WL.box (O := (Lg.O0 A)) 11 [vi a0.Scale, vu a0.Zero, vi a0.Pos.Offset, (Value.slice bp bq br), vi a0.Neg.Offset, (Value.slice bs bt bu)] z z z ?_
 intro eY er eO I dF
 have bw := dB.i I z z
 have dG := h
 obtain ⟨bx, bz, bA, rfl⟩ := bw.shape
 have h := dG
 have bB := dC.i I z z
 have dH := h
 obtain ⟨bC, bD, bE, rfl⟩ := bB.shape
 have h := dH
 refine WL.box (O := er) 12 [vi a1.Scale, vu a1.Zero, vi a1.Pos.Offset, (Value.slice bx bz bA), vi a1.Neg.Offset, (Value.slice bC bD bE)] z z z ?_
 intro eZ es eP G dI
 refine WL.alloc (O := es) 13 [vi 0, vu 0, vi 0, Value.slice none 0 0, vi 0, Value.slice none 0 0] ty30 z z ?_
 intro Z et eQ C ah
 refine wY (ya z) z (nl (th (sq (rg ?_))))
 have dJ := dF.st G z
 have dK := dJ.st C z
 refine wY (yL ty30 z z (dK.cells 0 [vi a0.Scale, vu a0.Zero, vi a0.Pos.Offset, (Value.slice bp bq br), vi a0.Neg.Offset, (Value.slice bs bt bu)] z) z) z ?_
 have dL := dI.st C z
 refine wY (yL ty30 z z (dL.cells 0 [vi a1.Scale, vu a1.Zero, vi a1.Pos.Offset, (Value.slice bx bz bA), vi a1.Neg.Offset, (Value.slice bC bD bE)] z) z) z ?_
 have dM := bn.i I z z
 have dN := dM.i G z z
 have dO := dN.i C z z
 have dP := bo.i I z z
 have dQ := dP.i G z z
 have dR := dQ.i C z z
 have dS := bw.i G z z
 have dT := dS.i C z z
 have dU := bB.i G z z
 have dV := dU.i C z z
 obtain ⟨d, dW, h⟩ := bnd h
 refine WL.call (vals := [ag [vi a0.Scale, vu a0.Zero, vi a0.Pos.Offset, (Value.slice bp bq br), vi a0.Neg.Offset, (Value.slice bs bt bu)], ag [vi a1.Scale, vu a1.Zero, vi a1.Pos.Offset, (Value.slice bx bz bA), vi a1.Neg.Offset, (Value.slice bC bD bE)]]) kok53 z z (c_ref09_Level (A := fun _ => True) (a0 := a0) (a1 := a1) (Sl.all dO) (Sl.all dR) (Sl.all dT) (Sl.all dV) dW) ?_
 rintro eR ai ⟨eu, ew, ex, ey, rfl, dX, ez, eA, eB, eC⟩
 obtain ⟨aQ, eD, W, J⟩ := adoptE et (fun k => 1) dX
 have dY : Sl Rep.u ai (frs aQ) eu d.X.Pos.Counts := Sl.adoptF ez (fun k hk => ⟨hk, z⟩) W
 have dZ : Sl Rep.u ai (frs aQ) ew d.X.Neg.Counts := Sl.adoptF eA (fun k hk => ⟨hk, z⟩) W
 have d0 : Sl Rep.u ai (frs aQ) ex d.Y.Pos.Counts := Sl.adoptF eB (fun k hk => ⟨hk, z⟩) W
 have d1 : Sl Rep.u ai (frs aQ) ey d.Y.Neg.Counts := Sl.adoptF eC (fun k hk => ⟨hk, z⟩) W
 refine WL.alloc (O := aQ) 14 [vi 0, vu 0, vi 0, Value.slice none 0 0, vi 0, Value.slice none 0 0, vi 0, vu 0, vi 0, Value.slice none 0 0, vi 0, Value.slice none 0 0, vi 0] ty83 z z ?_
 intro ac aX eS r d2
 have bF := dY.f r z
 have d3 := h
 obtain ⟨aY, aZ, a3, rfl⟩ := bF.shape
 have h := d3
 have bG := dZ.f r z
 have d4 := h
 obtain ⟨a4, a5, a6, rfl⟩ := bG.shape
 have h := d4
 have bH := d0.f r z
 have bP := h
 obtain ⟨a7, a8, aj, rfl⟩ := bH.shape
 have h := bP
 have a9 := d1.f r z
 have bQ := h
 obtain ⟨ak, al, am, rfl⟩ := a9.shape
 have h := bQ
 refine WL.store (v := ag [vi d.X.Scale, vu d.X.Zero, vi d.X.Pos.Offset, (Value.slice aY aZ a3), vi d.X.Neg.Offset, (Value.slice a4 a5 a6), vi d.Y.Scale, vu d.Y.Zero, vi d.Y.Pos.Offset, (Value.slice a7 a8 aj), vi d.Y.Neg.Offset, (Value.slice ak al am), vi d.E]) (cells' := [vi d.X.Scale, vu d.X.Zero, vi d.X.Pos.Offset, (Value.slice aY aZ a3), vi d.X.Neg.Offset, (Value.slice a4 a5 a6), vi d.Y.Scale, vu d.Y.Zero, vi d.Y.Pos.Offset, (Value.slice a7 a8 aj), vi d.Y.Neg.Offset, (Value.slice ak al am), vi d.E]) ty83 z z d2 z (le_ z) z z ?_
 intro ba l an
 refine nl (th (sq (sq (rg (wY (yf fo83_2 z) z (wY (yl ty38 z z (an.cell 12 _ z)) z (wY (Y.neq_i z z) z (nl (th ?_)))))))))
 rcases cnd h with ⟨ao, h⟩ | ⟨ao, h⟩
 ·refine WC.condT' z ao (sq (rg (wY (yb (vals := []) (cells := [vi 0, vu 0, vi 0, Value.slice none 0 0, vi 0, Value.slice none 0 0]) (fe_ z) (by kernel_rfl)) z ?_)))
  have bR := ah.st J z
  have bS := bR.st r z
  have bT := bS.st l z
  refine WL.store (v := ag [vi 0, vu 0, vi 0, Value.slice none 0 0, vi 0, Value.slice none 0 0]) (cells' := [vi 0, vu 0, vi 0, Value.slice none 0 0, vi 0, Value.slice none 0 0]) ty30 z z bT z (le_ z) z z ?_
  intro bU bI bW
  refine wY (ya z) z (nl (th (rt (At.thenR ?_))))
  obtain ⟨rfl, rfl⟩ := tup2 h
  have bX : Stp [13, 14] (Lg.O0 A) w aX bU := (tr_ (su_ I z) (tr_ (su_ G z) (tr_ (su_ C z) (tr_ (su_ J z) (tr_ (su_ r z) (tr_ (su_ l z) (su_ bI z)))))))
  exact At.res (.inl z) z (.cell z (bW.runAg 0 [vi 0, vu 0, vi 0, Value.slice none 0 0, vi 0, Value.slice none 0 0] ty30 z z z) (.tmp z .nil)) ⟨Value.slice none 0 0, Value.slice none 0 0, z, (se_ bX z z), (Or.inl ⟨z, z⟩), (Or.inl ⟨z, z⟩)⟩
 ·refine WC.condF' z ao (sk (th (sq (sq (rg (wY (yf fo83_0 z) z (wY (yf fo30_0 z) z (wY (yl ty3 z z (an.cell 0 _ z)) z (wY (ya z) z ?_)))))))))
  refine nl (th (WC.block ?_))
  obtain ⟨bJ, h, ap⟩ := flow1 h
  obtain ⟨bK, h⟩ := loop_some h
  refine WC.joinB 0 (σ := Own) (fun x w' => bJ = .go () ∧ Stp [15, 16, 17] aX ba x w') (fun x => [(6, pt Z 0)]) ?_ ?_
  ·refine WC.loop (σ := (Int × Own)) (fun x k w' => loopN k (ref16_Together_lp1 a2 d) x.1 = some bJ ∧ Stp [15, 16, 17] aX ba x.2 w') (fun x => [(2, vi a2), (6, pt Z 0), (8, pt ac 0), (9, vi x.1)]) (d.X.Scale, aX) bK (.cons z (.cons z (.cons z (.cons z .nil)))) ⟨h, (sr_ _ _ _)⟩ ?_
   rintro ⟨M, bL⟩ bK eE ⟨h, m⟩
   obtain ⟨d5, eT, rfl, h, aa⟩ := rnd1 h
   unfold ref16_Together_lp1 at h
   try dsimp only at h m
   refine (show WC _ _ _ _ [(2, vi a2), (6, pt Z 0), (8, pt ac 0), (9, vi M)] _ from ?_)
   refine sq (sq (rg (wY (ym z) z (wY (Y.geq_i z z) z (nl (th ?_))))))
   rcases cnd h with ⟨aq, h⟩ | ⟨aq, h⟩
   ·refine WC.condT' z aq (sk (th (sq (WC.block (sq (rg (wY (yf fo83_0 z) z ?_)))))))
    have ar := an.st m z
    refine wY (yL ty30 z z (ar.cells 0 [vi d.X.Scale, vu d.X.Zero, vi d.X.Pos.Offset, (Value.slice aY aZ a3), vi d.X.Neg.Offset, (Value.slice a4 a5 a6)] z) z) z (wY (yf fo83_0 z) z (wY (yf fo30_0 z) z (wY (yl ty3 z z (ar.cell 0 _ z)) z (wY (ym z) z (wY (Y.sub_i z z) z ?_)))))
    have bY := bF.f l z
    have bZ := bY.f m z
    have b0 := bG.f l z
    have b1 := b0.f m z
    obtain ⟨⟨e, eU⟩, b2, h⟩ := bnd h
    refine WL.call (vals := [ag [vi d.X.Scale, vu d.X.Zero, vi d.X.Pos.Offset, (Value.slice aY aZ a3), vi d.X.Neg.Offset, (Value.slice a4 a5 a6)], vi (w64 (d.X.Scale - M))]) kok54 z z (c_ref08_Down (A := fun _ => True) (a0 := d.X) (Sl.all bZ) (Sl.all b1) b2) ?_
    rintro eF bb ⟨d6, d7, rfl, b3, d8, d9⟩
    obtain ⟨aS, en, ad, D⟩ := adoptE bL (fun k => 1) b3
    have b4 : Sl Rep.u bb (frs aS) d6 e.Pos.Counts := Sl.adoptF d8 (fun k hk => ⟨hk, z⟩) ad
    have b5 : Sl Rep.u bb (frs aS) d7 e.Neg.Counts := Sl.adoptF d9 (fun k hk => ⟨hk, z⟩) ad
    refine wY (ym z) z (wY (yx z z) z (wY (yx z z) z (WL.alloc (O := aS) 15 [vi 0, vu 0, vi 0, Value.slice none 0 0, vi 0, Value.slice none 0 0] ty30 z z ?_)))
    intro eV ea eG n b6
    have bc := b4.f n z
    have b7 := h
    obtain ⟨au, av, aw, rfl⟩ := bc.shape
    have h := b7
    have bd := b5.f n z
    have b8 := h
    obtain ⟨ax, ay, az, rfl⟩ := bd.shape
    have h := b8
    refine WL.store (v := ag [vi e.Scale, vu e.Zero, vi e.Pos.Offset, (Value.slice au av aw), vi e.Neg.Offset, (Value.slice ax ay az)]) (cells' := [vi e.Scale, vu e.Zero, vi e.Pos.Offset, (Value.slice au av aw), vi e.Neg.Offset, (Value.slice ax ay az)]) ty30 z z b6 z (le_ z) z z ?_
    intro eH o b9
    refine wY (ya z) z (nl (th (sq (rg (wY (yf fo83_1 z) z ?_)))))
    have ca := ar.st D z
    have cb := ca.st n z
    have bf := cb.st o z
    refine wY (yL ty30 z z (bf.cells 6 [vi d.Y.Scale, vu d.Y.Zero, vi d.Y.Pos.Offset, (Value.slice a7 a8 aj), vi d.Y.Neg.Offset, (Value.slice ak al am)] z) z) z (wY (yf fo83_0 z) z (wY (yf fo30_0 z) z (wY (yl ty3 z z (bf.cell 0 _ z)) z (wY (ym z) z (wY (Y.sub_i z z) z ?_)))))
    have cc := bH.f l z
    have cd := cc.f m z
    have ce := cd.f D z
    have cf := ce.f n z
    have cg := cf.f o z
    have ch := a9.f l z
    have ci := ch.f m z
    have cj := ci.f D z
    have ck := cj.f n z
    have cl := ck.f o z
    obtain ⟨⟨j, eW⟩, cm, h⟩ := bnd h
    refine WL.call (vals := [ag [vi d.Y.Scale, vu d.Y.Zero, vi d.Y.Pos.Offset, (Value.slice a7 a8 aj), vi d.Y.Neg.Offset, (Value.slice ak al am)], vi (w64 (d.X.Scale - M))]) kok54 z z (c_ref08_Down (A := fun _ => True) (a0 := d.Y) (Sl.all cg) (Sl.all cl) cm) ?_
    rintro eI bg ⟨eb, ec, rfl, cn, ed, ee⟩
    obtain ⟨aT, eo, ae, F⟩ := adoptE ea (fun k => 1) cn
    have co : Sl Rep.u bg (frs aT) eb j.Pos.Counts := Sl.adoptF ed (fun k hk => ⟨hk, z⟩) ae
    have cp : Sl Rep.u bg (frs aT) ec j.Neg.Counts := Sl.adoptF ee (fun k hk => ⟨hk, z⟩) ae
    refine wY (ym z) z (wY (yx z z) z (wY (yx z z) z (WL.alloc (O := aT) 16 [vi 0, vu 0, vi 0, Value.slice none 0 0, vi 0, Value.slice none 0 0] ty30 z z ?_)))
    intro eX ef eJ p cq
    have bh := co.f p z
    have cr := h
    obtain ⟨aA, aC, aD, rfl⟩ := bh.shape
    have h := cr
    have bi := cp.f p z
    have cs := h
    obtain ⟨aE, aF, aG, rfl⟩ := bi.shape
    have h := cs
    refine WL.store (v := ag [vi j.Scale, vu j.Zero, vi j.Pos.Offset, (Value.slice aA aC aD), vi j.Neg.Offset, (Value.slice aE aF aG)]) (cells' := [vi j.Scale, vu j.Zero, vi j.Pos.Offset, (Value.slice aA aC aD), vi j.Neg.Offset, (Value.slice aE aF aG)]) ty30 z z cq z (le_ z) z z ?_
    intro eK q ct
    refine wY (ya z) z (nl (th (sq (rg ?_))))
    have cu := b9.st F z
    have cv := cu.st p z
    have cw := cv.st q z
    refine wY (yL ty30 z z (cw.cells 0 [vi e.Scale, vu e.Zero, vi e.Pos.Offset, (Value.slice au av aw), vi e.Neg.Offset, (Value.slice ax ay az)] z) z) z (wY (yL ty30 z z (ct.cells 0 [vi j.Scale, vu j.Zero, vi j.Pos.Offset, (Value.slice aA aC aD), vi j.Neg.Offset, (Value.slice aE aF aG)] z) z) z ?_)
    have cx := bc.f o z
    have cy := cx.f F z
    have cz := cy.f p z
    have cA := cz.f q z
    have cC := bd.f o z
    have cD := cC.f F z
    have cE := cD.f p z
    have cF := cE.f q z
    have cG := bh.f q z
    have cH := bi.f q z
    obtain ⟨⟨c, K⟩, cI, h⟩ := bnd h
    refine WL.call (vals := [ag [vi e.Scale, vu e.Zero, vi e.Pos.Offset, (Value.slice au av aw), vi e.Neg.Offset, (Value.slice ax ay az)], ag [vi j.Scale, vu j.Zero, vi j.Pos.Offset, (Value.slice aA aC aD), vi j.Neg.Offset, (Value.slice aE aF aG)]]) kok55 z z (c_ref09_Merge (A := fun _ => True) (a0 := e) (a1 := j) (Sl.all cA) (Sl.all cF) (Sl.all cG) (Sl.all cH) cI) ?_
    rintro eL bj ⟨eg, eh, rfl, cJ, ei, ej⟩
    obtain ⟨aU, ep, af, L⟩ := adoptE ef (fun k => 1) cJ
    have cK : Sl Rep.u bj (frs aU) eg c.Pos.Counts := Sl.adoptF ei (fun k hk => ⟨hk, z⟩) af
    have cL : Sl Rep.u bj (frs aU) eh c.Neg.Counts := Sl.adoptF ej (fun k hk => ⟨hk, z⟩) af
    refine wY (ym z) z (wY (yx z z) z (wY (yx z z) z (WL.alloc (O := aU) 17 [vi 0, vu 0, vi 0, Value.slice none 0 0, vi 0, Value.slice none 0 0] ty30 z z ?_)))
    intro aH aW eM H cM
    have aI := cK.f H z
    have cN := h
    obtain ⟨P, Q, S, rfl⟩ := aI.shape
    have h := cN
    have aJ := cL.f H z
    have cO := h
    obtain ⟨T, U, V, rfl⟩ := aJ.shape
    have h := cO
    refine WL.store (v := ag [vi c.Scale, vu c.Zero, vi c.Pos.Offset, (Value.slice P Q S), vi c.Neg.Offset, (Value.slice T U V)]) (cells' := [vi c.Scale, vu c.Zero, vi c.Pos.Offset, (Value.slice P Q S), vi c.Neg.Offset, (Value.slice T U V)]) ty30 z z cM z (le_ z) z z ?_
    intro bk t aK
    refine wY (ya z) z (nl (th (sq (sq (rg (wY (ym z) z (wY (Y.eql_i z z) z (nl (th ?_)))))))))
    rcases cnd h with ⟨aL, h⟩ | ⟨aL, h⟩
    ·refine WC.condT' z aL (sq (rg (wY (yb (vals := []) (cells := [vi 0, vu 0, vi 0, Value.slice none 0 0, vi 0, Value.slice none 0 0]) (fe_ z) (by kernel_rfl)) z ?_)))
     have cP := ah.st J z
     have cQ := cP.st r z
     have cR := cQ.st l z
     have cS := cR.st m z
     have cT := cS.st D z
     have cU := cT.st n z
     have cV := cU.st o z
     have cW := cV.st F z
     have cX := cW.st p z
     have cY := cX.st q z
     have cZ := cY.st L z
     have c0 := cZ.st H z
     have c1 := c0.st t z
     refine WL.store (v := ag [vi 0, vu 0, vi 0, Value.slice none 0 0, vi 0, Value.slice none 0 0]) (cells' := [vi 0, vu 0, vi 0, Value.slice none 0 0, vi 0, Value.slice none 0 0]) ty30 z z c1 z (le_ z) z z ?_
     intro c2 bM c3
     refine wY (ya z) z (nl (th (rt (At.thenR (At.inBlockR (At.thenR (At.loopR ?_)))))))
     have h := outr1 h aa ap
     refine At.joinBR (At.inBlockR (At.thenR ?_))
     obtain ⟨rfl, rfl⟩ := tup2 h
     have c4 : Stp [13, 14, 15, 16, 17] (Lg.O0 A) w aW c2 := (tr_ (su_ I z) (tr_ (su_ G z) (tr_ (su_ C z) (tr_ (su_ J z) (tr_ (su_ r z) (tr_ (su_ l z) (tr_ (su_ m z) (tr_ (su_ D z) (tr_ (su_ n z) (tr_ (su_ o z) (tr_ (su_ F z) (tr_ (su_ p z) (tr_ (su_ q z) (tr_ (su_ L z) (tr_ (su_ H z) (tr_ (su_ t z) (su_ bM z)))))))))))))))))
     exact At.res (.inl z) z (.cell z (c3.runAg 0 [vi 0, vu 0, vi 0, Value.slice none 0 0, vi 0, Value.slice none 0 0] ty30 z z z) (.tmp z .nil)) ⟨Value.slice none 0 0, Value.slice none 0 0, z, (se_ c4 z z), (Or.inl ⟨z, z⟩), (Or.inl ⟨z, z⟩)⟩
    ·refine WC.condF' z aL (sk (th (sq (rg (wY (ym z) z (wY (Y.eql_i z z) z (wY (ym z) z ?_)))))))
     refine WL.cut 7 (σ := Unit) (fun _ w' => bk = w') (fun _ => [(2, vi a2), (6, pt Z 0), (8, pt ac 0), (9, vi M), (14, pt aH 0), (70, vB ((decide (K = 0)) && (decide ((c.Pos.Counts.length : Int) ≤ a2))))]) ?_ ?_
     ·refine WL.part 63 z (fun aM => ?_) (fun aM => ?_)
      ·refine ug z z (wY (yf fo30_2 z) z (ug z z (wY (yf fo28_1 z) z (ug z z (wY (yl ty26 z z (aK.cell 3 _ z)) z (ug z z ?_))))))
       have c5 := aI.f t z
       refine wY (Y.len ty26 z c5) z (ug z z (wY (ym z) z (ug z z (wY (Y.leq_i z z) z (wY (Y.pick (b := true) z z) z (WL.ren (v' := vB ((decide (K = 0)) && (decide ((c.Pos.Counts.length : Int) ≤ a2)))) 70 z (congrArg vB (andT aM)) ?_))))))
       exact nl (At.join () z (.cons z (.cons z (.cons z (.cons z (.cons z (.cons z .nil)))))))
      ·refine WL.gS z z z z (WL.gS z z z z (WL.gS z z z z (WL.gS z z z z (WL.gS z z z z (WL.gS z z z z (wY (Y.pick (b := false) z z) z (WL.ren (v' := vB ((decide (K = 0)) && (decide ((c.Pos.Counts.length : Int) ≤ a2)))) 70 z (congrArg vB (andF aM)) ?_)))))))
       exact nl (At.join () z (.cons z (.cons z (.cons z (.cons z (.cons z (.cons z .nil)))))))
     ·rintro _ _ rfl
      refine (show WL _ _ _ _ _ [(2, vi a2), (6, pt Z 0), (8, pt ac 0), (9, vi M), (14, pt aH 0), (70, vB ((decide (K = 0)) && (decide ((c.Pos.Counts.length : Int) ≤ a2))))] _ from ?_)
      refine wY (ym z) z ?_
      refine WL.cut 7 (σ := Unit) (fun _ w' => bk = w') (fun _ => [(2, vi a2), (6, pt Z 0), (8, pt ac 0), (9, vi M), (14, pt aH 0), (78, vB (((decide (K = 0)) && (decide ((c.Pos.Counts.length : Int) ≤ a2))) && (decide ((c.Neg.Counts.length : Int) ≤ a2))))]) ?_ ?_
      ·refine WL.part 71 z (fun aN => ?_) (fun aN => ?_)
       ·refine ug z z (wY (yf fo30_3 z) z (ug z z (wY (yf fo28_1 z) z (ug z z (wY (yl ty26 z z (aK.cell 5 _ z)) z (ug z z ?_))))))
        have c6 := aJ.f t z
        refine wY (Y.len ty26 z c6) z (ug z z (wY (ym z) z (ug z z (wY (Y.leq_i z z) z (wY (Y.pick (b := true) z z) z (WL.ren (v' := vB (((decide (K = 0)) && (decide ((c.Pos.Counts.length : Int) ≤ a2))) && (decide ((c.Neg.Counts.length : Int) ≤ a2)))) 78 z (congrArg vB (andT aN)) ?_))))))
        exact nl (At.join () z (.cons z (.cons z (.cons z (.cons z (.cons z (.cons z .nil)))))))
       ·refine WL.gS z z z z (WL.gS z z z z (WL.gS z z z z (WL.gS z z z z (WL.gS z z z z (WL.gS z z z z (wY (Y.pick (b := false) z z) z (WL.ren (v' := vB (((decide (K = 0)) && (decide ((c.Pos.Counts.length : Int) ≤ a2))) && (decide ((c.Neg.Counts.length : Int) ≤ a2)))) 78 z (congrArg vB (andF aN)) ?_)))))))
        exact nl (At.join () z (.cons z (.cons z (.cons z (.cons z (.cons z (.cons z .nil)))))))
      ·rintro _ _ rfl
       refine (show WL _ _ _ _ _ [(2, vi a2), (6, pt Z 0), (8, pt ac 0), (9, vi M), (14, pt aH 0), (78, vB (((decide (K = 0)) && (decide ((c.Pos.Counts.length : Int) ≤ a2))) && (decide ((c.Neg.Counts.length : Int) ≤ a2))))] _ from ?_)
       refine nl (th ?_)
       rcases cnd h with ⟨aO, h⟩ | ⟨aO, h⟩
       ·refine WC.condT' z aO (sq (rg (wY (yL ty30 z z (aK.cells 0 [vi c.Scale, vu c.Zero, vi c.Pos.Offset, (Value.slice P Q S), vi c.Neg.Offset, (Value.slice T U V)] z) z) z ?_)))
        have c7 := ah.st J z
        have c8 := c7.st r z
        have c9 := c8.st l z
        have da := c9.st m z
        have db := da.st D z
        have dc := db.st n z
        have dd := dc.st o z
        have de := dd.st F z
        have df := de.st p z
        have dg := df.st q z
        have dh := dg.st L z
        have di := dh.st H z
        have dj := di.st t z
        refine WL.store (v := ag [vi c.Scale, vu c.Zero, vi c.Pos.Offset, (Value.slice P Q S), vi c.Neg.Offset, (Value.slice T U V)]) (cells' := [vi c.Scale, vu c.Zero, vi c.Pos.Offset, (Value.slice P Q S), vi c.Neg.Offset, (Value.slice T U V)]) ty30 z z dj z (le_ z) z z ?_
        intro dk ab dl
        refine wY (ya z) z (nl (th (rt (At.inBlockR (At.thenR (At.loopR ?_))))))
        have h := outr1 h aa ap
        refine At.joinBR (At.inBlockR (At.thenR ?_))
        obtain ⟨rfl, rfl⟩ := tup2 h
        have aP : Stp [13, 14, 15, 16, 17] (Lg.O0 A) w aW dk := (tr_ (su_ I z) (tr_ (su_ G z) (tr_ (su_ C z) (tr_ (su_ J z) (tr_ (su_ r z) (tr_ (su_ l z) (tr_ (su_ m z) (tr_ (su_ D z) (tr_ (su_ n z) (tr_ (su_ o z) (tr_ (su_ F z) (tr_ (su_ p z) (tr_ (su_ q z) (tr_ (su_ L z) (tr_ (su_ H z) (tr_ (su_ t z) (su_ ab z)))))))))))))))))
        have dm := aI.f t z
        have dn := dm.f ab z
        have dp := aJ.f t z
        have dr := dp.f ab z
        exact At.res (.inl z) z (.cell z (dl.runAg 0 [vi c.Scale, vu c.Zero, vi c.Pos.Offset, (Value.slice P Q S), vi c.Neg.Offset, (Value.slice T U V)] ty30 z z z) (.tmp z .nil)) ⟨(Value.slice P Q S), (Value.slice T U V), z, (se_ aP z z), (Sl.outF dn aP low0), (Sl.outF dr aP low0)⟩
       ·refine WC.condF' z aO (sk (At.inBlock (th (rg (wY (ym z) z (wY (Y.sub_i z z) z ?_))))))
        obtain ⟨ek, ds, h⟩ := lt1 h
        refine WL.yE (ya z) (congrArg vi ds.symm) z (nl ?_)
        exact At.round (ek, aW) d5 (Nat.lt_succ_self _) ⟨next1 h aa, (tr_ (su_ m z) (tr_ (su_ D z) (tr_ (su_ n z) (tr_ (su_ o z) (tr_ (su_ F z) (tr_ (su_ p z) (tr_ (su_ q z) (tr_ (su_ L z) (tr_ (su_ H z) (su_ t z))))))))))⟩ (.cons z (.cons z (.cons z (.cons z .nil))))
   ·refine WC.condF' z aq (WC.exit (At.thenX (At.loopX ?_)))
    exact At.hitB (σ := Own) bL ⟨brk1 h aa, (su_ m z)⟩ (.cons z .nil)
  ·rintro em eN ⟨rfl, aR⟩
   replace h := flowK_go ap
   refine (show At _ _ _ [(6, pt Z 0)] _ from ?_)
   refine At.inBlockHit (th (sq (rg (wY (yb (vals := []) (cells := [vi 0, vu 0, vi 0, Value.slice none 0 0, vi 0, Value.slice none 0 0]) (fe_ z) (by kernel_rfl)) z ?_))))
   have dt := ah.st J z
   have du := dt.st r z
   have dw := du.st l z
   have dx := dw.st aR z
   refine WL.store (v := ag [vi 0, vu 0, vi 0, Value.slice none 0 0, vi 0, Value.slice none 0 0]) (cells' := [vi 0, vu 0, vi 0, Value.slice none 0 0, vi 0, Value.slice none 0 0]) ty30 z z dx z (le_ z) z z ?_
   intro dy bO dz
   refine wY (ya z) z (nl (th (rt ?_)))
   obtain ⟨rfl, rfl⟩ := tup2 h
   have dA : Stp [13, 14, 15, 16, 17] (Lg.O0 A) w em dy := (tr_ (su_ I z) (tr_ (su_ G z) (tr_ (su_ C z) (tr_ (su_ J z) (tr_ (su_ r z) (tr_ (su_ l z) (tr_ (su_ aR z) (su_ bO z))))))))
   exact At.res (.inl z) z (.cell z (dz.runAg 0 [vi 0, vu 0, vi 0, Value.slice none 0 0, vi 0, Value.slice none 0 0] ty30 z z z) (.tmp z .nil)) ⟨Value.slice none 0 0, Value.slice none 0 0, z, (se_ dA z z), (Or.inl ⟨z, z⟩), (Or.inl ⟨z, z⟩)⟩
theorem c_ref05_wide {a0 : UInt64} {w : World} {r0 : UInt64} {r1 : Int} (h : ref05_wide a0 = some (r0, r1)) : Rets Try.prog 102 [vu a0] w (fun v w' => v = tp [vu r0, vi r1] ∧ Ext w w') := by
 unfold ref05_wide at h
 refine Rets.enter Try.func102 z z ?_
 refine (show WC _ _ _ _ [(0, vu a0)] _ from ?_)
 refine sq (rg (wY (ya (v := vu 0) z) z (wY (ya z) z (nl (th (sq (rg (wY (ym z) z (wY (Y.quo_u (b := 4503599627370496) (by decide) z z) z ?_)))))))))
 refine wY (Y.rem_u (b := 2048) (by decide) z z) z (wY (Y.conv_ui ty25.u ty3.u z) z ?_)
 obtain ⟨n, d, h⟩ := lt1 h
 refine WL.yE (ya z) (congrArg vi d.symm) z (nl (th (sq (rg (wY (ym z) z (wY (Y.rem_u (b := 4503599627370496) (by decide) z z) z ?_))))))
 obtain ⟨o, e, h⟩ := lt1 h
 refine WL.yE (ya z) (congrArg vu e.symm) z (nl (th (sq (sq (rg (wY (ym z) z (wY (Y.eql_i z z) z (nl (th ?_)))))))))
 rcases cnd h with ⟨c, h⟩ | ⟨c, h⟩
 ·refine WC.condT' z c (sq (rg (wY (ym z) z (wY (ya z) z (wY (ya z) z (nl (th (rt (At.thenR ?_)))))))))
  obtain ⟨rfl, rfl⟩ := tup2 h
  have j : Stp [] (Lg.O0 (fun _ => False)) w (Lg.O0 (fun _ => False)) w := (sr_ _ _ _)
  exact At.res (.inl z) z (.tmp z (.tmp z .nil)) ⟨z, (se_ j z z)⟩
 ·refine WC.condF' z c (sk (th (sq (rg (wY (ym z) z (wY (Y.add_u (b := 4503599627370496) z z) z (wY (ym z) z ?_)))))))
  obtain ⟨p, l, h⟩ := lt1 h
  refine WL.yE (ya z) (congrArg vu l.symm) z (wY (ya z) z (nl (th (rt ?_))))
  obtain ⟨rfl, rfl⟩ := tup2 h
  have m : Stp [] (Lg.O0 (fun _ => False)) w (Lg.O0 (fun _ => False)) w := (sr_ _ _ _)
  exact At.res (.inl z) z (.tmp z (.tmp z .nil)) ⟨z, (se_ m z z)⟩
theorem c_ref05_shifted {a0 : UInt64} {a1 : Int} {w : World} {r0 : UInt64} (h : ref05_shifted a0 a1 = some r0) : Rets Try.prog 103 [vu a0, vi a1] w (fun v w' => v = vu r0 ∧ Ext w w') := by
 unfold ref05_shifted at h
 refine Rets.enter Try.func103 z z ?_
 refine (show WC _ _ _ _ [(0, vu a0), (1, vi a1)] _ from ?_)
 refine sq (rg (wY (ya (v := vu 0) z) z (nl (th (sq (sq (rg (wY (ya z) z (nl ?_)))))))))
 refine th (WC.block ?_)
 obtain ⟨l, h, j⟩ := flow1 h
 obtain ⟨m, h⟩ := loop_some h
 refine WC.joinB 0 (σ := UInt64) (fun x w' => l = .go x ∧ w = w') (fun x => [(0, vu x)]) ?_ ?_
 ·refine WC.loop (σ := (UInt64 × Int)) (fun x k w' => loopN k (ref05_shifted_lp1 a1) (x.1, x.2) = some l ∧ w = w') (fun x => [(0, vu x.1), (1, vi a1), (5, vi x.2)]) (a0, 0) m (.cons z (.cons z (.cons z .nil))) ⟨h, z⟩ ?_
  rintro ⟨n, t⟩ m _ ⟨h, rfl⟩
  obtain ⟨C, H, rfl, h, c⟩ := rnd1 h
  unfold ref05_shifted_lp1 at h
  try dsimp only at h
  refine (show WC _ _ _ _ [(0, vu n), (1, vi a1), (5, vi t)] _ from ?_)
  refine sq (sq (rg (wY (ym z) z (wY (ym z) z (wY (Y.lss_i z z) z (nl (th ?_)))))))
  rcases cnd h with ⟨d, h⟩ | ⟨d, h⟩
  ·refine WC.condT' z d (sk (th (sq (WC.block (sq (sq (rg (wY (ym z) z (wY (Y.lss_u (b := 2) z z) z ?_)))))))))
   refine nl (th ?_)
   rcases cnd h with ⟨e, h⟩ | ⟨e, h⟩
   ·refine WC.condT' z e (sq (rg (wY (ym z) z (wY (ya z) z (nl (th (rt (At.thenR (At.inBlockR ?_)))))))))
    refine At.thenR (At.loopR ?_)
    have h := outr1 h c j
    refine At.joinBR (At.inBlockR (At.thenR ?_))
    obtain rfl := some1 h
    have o : Stp [] (Lg.O0 (fun _ => False)) w (Lg.O0 (fun _ => False)) w := (sr_ _ _ _)
    exact At.res (.inl z) z (.tmp z .nil) ⟨z, (se_ o z z)⟩
   ·refine WC.condF' z e (sk (th (rg (wY (ym z) z (wY (Y.quo_u (b := 2) (by decide) z z) z (wY (ym z) z (wY (Y.rem_u (b := 2) (by decide) z z) z (wY (Y.or_u z z) z ?_))))))))
    obtain ⟨D, p, h⟩ := lt1 h
    refine WL.yE (ya z) (congrArg vu p.symm) z (nl (At.inBlock (th (rg (wY (ym z) z (wY (Y.add_i z z) z ?_))))))
    obtain ⟨F, q, h⟩ := lt1 h
    refine WL.yE (ya z) (congrArg vi q.symm) z (nl ?_)
    exact At.round (D, F) C (Nat.lt_succ_self _) ⟨next1 h c, z⟩ (.cons z (.cons z (.cons z .nil)))
  ·refine WC.condF' z d (WC.exit (At.thenX (At.loopX ?_)))
   exact At.hitB (σ := UInt64) n ⟨brk1 h c, z⟩ (.cons z .nil)
 ·rintro G _ ⟨rfl, rfl⟩
  replace h := flowK_go j
  try dsimp only at h
  refine (show At _ _ _ [(0, vu G)] _ from ?_)
  refine At.inBlockHit (th (sq (rg (wY (ym z) z (wY (ya z) z (nl (th (rt ?_))))))))
  obtain rfl := some1 h
  have r : Stp [] (Lg.O0 (fun _ => False)) w (Lg.O0 (fun _ => False)) w := (sr_ _ _ _)
  exact At.res (.inl z) z (.tmp z .nil) ⟨z, (se_ r z z)⟩
theorem c_ref05_round {a0 : UInt64} {a1 : Int} {a2 : Bool} {w : World} {r0 : UInt64} (h : ref05_round a0 a1 a2 = some r0) : Rets Try.prog 104 [vu a0, vi a1, vB a2] w (fun v w' => v = vu r0 ∧ Ext w w') := by
 unfold ref05_round at h
 refine Rets.enter Try.func104 z z ?_
 refine (show WC _ _ _ _ [(0, vu a0), (1, vi a1), (2, vB a2)] _ from ?_)
 refine sq (rg (wY (ya (v := vu 0) z) z (nl (th (sq (sq (rg (wY (ym z) z (wY (Y.eql_u (b := 0) z z) z ?_)))))))))
 refine nl (th ?_)
 rcases cnd h with ⟨p, h⟩ | ⟨p, h⟩
 ·refine WC.condT' z p (sq (rg (wY (ya (v := vu 0) z) z (nl (th (rt (At.thenR ?_)))))))
  obtain rfl := some1 h
  have ao : Stp [] (Lg.O0 (fun _ => False)) w (Lg.O0 (fun _ => False)) w := (sr_ _ _ _)
  exact At.res (.inl z) z (.tmp z .nil) ⟨z, (se_ ao z z)⟩
 ·refine WC.condF' z p (sk (th (sq ?_)))
  obtain ⟨aL, h, ap⟩ := bnd h
  refine WC.join (σ := (UInt64 × Int × Own)) (fun x w' => (x.1, x.2.1) = aL ∧ Stp [] (Lg.O0 (fun _ => False)) w x.2.2 w') (fun x => [(0, vu x.1), (1, vi x.2.1), (2, vB a2)]) ?_ ?_
  ·refine WC.block ?_
   obtain ⟨W, h, aq⟩ := flow1 h
   obtain ⟨Z, h⟩ := loop_some h
   refine WC.joinB 0 (σ := (UInt64 × Int × Own)) (fun x w' => W = .go (x.1, x.2.1) ∧ Stp [] (Lg.O0 (fun _ => False)) w x.2.2 w') (fun x => [(0, vu x.1), (1, vi x.2.1), (2, vB a2)]) ?_ ?_
   ·refine WC.loop (σ := (UInt64 × Int × Own)) (fun x k w' => loopN k (ref05_round_lp1) (x.1, x.2.1) = some W ∧ Stp [] (Lg.O0 (fun _ => False)) w x.2.2 w') (fun x => [(0, vu x.1), (1, vi x.2.1), (2, vB a2)]) (a0, a1, (Lg.O0 (fun _ => False))) Z (.cons z (.cons z (.cons z .nil))) ⟨h, (sr_ _ _ _)⟩ ?_
    rintro ⟨M, aa, ab⟩ Z a9 ⟨h, n⟩
    obtain ⟨aM, bd, rfl, h, P⟩ := rnd1 h
    unfold ref05_round_lp1 at h
    try dsimp only at h n
    refine (show WC _ _ _ _ [(0, vu M), (1, vi aa), (2, vB a2)] _ from ?_)
    refine sq (sq (rg (wY (ym z) z (wY (Y.geq_u (b := 72057594037927936) z z) z (nl (th ?_))))))
    rcases cnd h with ⟨q, h⟩ | ⟨q, h⟩
    ·refine WC.condT' z q (sk (th (WC.block (sq (rg (wY (ym z) z ?_))))))
     obtain ⟨aN, ar, h⟩ := bnd h
     refine WL.call (vals := [vu M, vi 1]) kok103 z z (c_ref05_shifted ar) ?_
     rintro ba bb ⟨rfl, au⟩
     obtain ⟨aO, aP, aQ, T⟩ := adoptE ab (fun k => 1) au
     refine wY (ya z) z (nl (th (rg (wY (ym z) z (wY (Y.add_i z z) z ?_)))))
     obtain ⟨aR, av, h⟩ := lt1 h
     refine WL.yE (ya z) (congrArg vi av.symm) z (nl (At.inBlock ?_))
     exact At.round (aN, aR, aO) aM (Nat.lt_succ_self _) ⟨next1 h P, (tr_ (su_ n z) (su_ T z))⟩ (.cons z (.cons z (.cons z .nil)))
    ·refine WC.condF' z q (WC.exit (At.thenX (At.loopX ?_)))
     exact At.hitB (σ := (UInt64 × Int × Own)) (M, aa, ab) ⟨brk1 h P, (su_ n z)⟩ (.cons z (.cons z (.cons z .nil)))
   ·rintro ⟨ac, ad, aS⟩ bc ⟨rfl, K⟩
    replace h := flowK_go aq
    try dsimp only at h K
    refine (show At _ _ _ [(0, vu ac), (1, vi ad), (2, vB a2)] _ from ?_)
    refine At.inBlockHit ?_
    exact At.join (σ := (UInt64 × Int × Own)) (ac, ad, aS) ⟨some1 h, (su_ K z)⟩ (.cons z (.cons z (.cons z .nil)))
  ·rintro ⟨ae, af, ah⟩ d ⟨rfl, o⟩
   replace h := ap
   try dsimp only at h o
   refine (show At _ _ _ [(0, vu ae), (1, vi af), (2, vB a2)] _ from ?_)
   refine th (sq ?_)
   obtain ⟨aT, h, aw⟩ := bnd h
   refine WC.join (σ := (UInt64 × Int)) (fun x w' => (x.1, x.2) = aT ∧ d = w') (fun x => [(0, vu x.1), (1, vi x.2), (2, vB a2)]) ?_ ?_
   ·refine WC.block ?_
    obtain ⟨ai, h, ax⟩ := flow1 h
    obtain ⟨aj, h⟩ := loop_some h
    refine WC.joinB 2 (σ := (UInt64 × Int)) (fun x w' => ai = .go (x.1, x.2) ∧ d = w') (fun x => [(0, vu x.1), (1, vi x.2), (2, vB a2)]) ?_ ?_
    ·refine WC.loop (σ := (UInt64 × Int)) (fun x k w' => loopN k (ref05_round_lp2) (x.1, x.2) = some ai ∧ d = w') (fun x => [(0, vu x.1), (1, vi x.2), (2, vB a2)]) (ae, af) aj (.cons z (.cons z (.cons z .nil))) ⟨h, z⟩ ?_
     rintro ⟨j, l⟩ aj _ ⟨h, rfl⟩
     obtain ⟨aU, bf, rfl, h, Q⟩ := rnd1 h
     unfold ref05_round_lp2 at h
     try dsimp only at h
     refine (show WC _ _ _ _ [(0, vu j), (1, vi l), (2, vB a2)] _ from ?_)
     refine sq (sq (rg (wY (ym z) z (wY (Y.lss_u (b := 36028797018963968) z z) z (wY (ym z) z ?_)))))
     refine WL.cut 3 (σ := Unit) (fun _ w' => d = w') (fun _ => [(0, vu j), (1, vi l), (2, vB a2), (22, vB ((decide (j < 36028797018963968)) && (decide (1 < l))))]) ?_ ?_
     ·refine WL.part 19 z (fun r => ?_) (fun r => ?_)
      ·refine ug z z (wY (ym z) z (ug z z (wY (Y.gtr_i z z) z (wY (Y.pick (b := true) z z) z (WL.ren (v' := vB ((decide (j < 36028797018963968)) && (decide (1 < l)))) 22 z (congrArg vB (andT r)) ?_)))))
       exact nl (At.join () z (.cons z (.cons z (.cons z (.cons z .nil)))))
      ·refine WL.gS z z z z (WL.gS z z z z (wY (Y.pick (b := false) z z) z (WL.ren (v' := vB ((decide (j < 36028797018963968)) && (decide (1 < l)))) 22 z (congrArg vB (andF r)) ?_)))
       exact nl (At.join () z (.cons z (.cons z (.cons z (.cons z .nil)))))
     ·rintro _ _ rfl
      refine (show WL _ _ _ _ _ [(0, vu j), (1, vi l), (2, vB a2), (22, vB ((decide (j < 36028797018963968)) && (decide (1 < l))))] _ from ?_)
      refine nl (th ?_)
      rcases cnd h with ⟨t, h⟩ | ⟨t, h⟩
      ·refine WC.condT' z t (sk (th (WC.block (sq (rg (wY (ym z) z (wY (Y.mul_u (a := 2) z z) z ?_)))))))
       obtain ⟨aW, ay, h⟩ := lt1 h
       refine WL.yE (ya z) (congrArg vu ay.symm) z (nl (th (rg (wY (ym z) z (wY (Y.sub_i z z) z ?_)))))
       obtain ⟨aX, az, h⟩ := lt1 h
       refine WL.yE (ya z) (congrArg vi az.symm) z (nl (At.inBlock ?_))
       exact At.round (aW, aX) aU (Nat.lt_succ_self _) ⟨next1 h Q, z⟩ (.cons z (.cons z (.cons z .nil)))
      ·refine WC.condF' z t (WC.exit (At.thenX (At.loopX ?_)))
       exact At.hitB (σ := (UInt64 × Int)) (j, l) ⟨brk1 h Q, z⟩ (.cons z (.cons z (.cons z .nil)))
    ·rintro ⟨ak, al⟩ _ ⟨rfl, rfl⟩
     replace h := flowK_go ax
     try dsimp only at h
     refine (show At _ _ _ [(0, vu ak), (1, vi al), (2, vB a2)] _ from ?_)
     refine At.inBlockHit ?_
     exact At.join (σ := (UInt64 × Int)) (ak, al) ⟨some1 h, z⟩ (.cons z (.cons z (.cons z .nil)))
   ·rintro ⟨aY, m⟩ _ ⟨rfl, rfl⟩
    replace h := aw
    try dsimp only at h
    refine (show At _ _ _ [(0, vu aY), (1, vi m), (2, vB a2)] _ from ?_)
    refine th (sq (rg (wY (ym z) z (wY (Y.rem_u (b := 8) (by decide) z z) z ?_))))
    obtain ⟨c, L, h⟩ := lt1 h
    refine WL.yE (ya z) (congrArg vu L.symm) z (nl (th (sq (rg (wY (ym z) z (wY (Y.quo_u (b := 8) (by decide) z z) z ?_))))))
    obtain ⟨e, aA, h⟩ := lt1 h
    refine WL.yE (ya z) (congrArg vu aA.symm) z (nl (th (sq ?_)))
    obtain ⟨aZ, h, aC⟩ := bnd h
    refine WC.join (σ := UInt64) (fun x w' => x = aZ ∧ d = w') (fun x => [(0, vu x), (1, vi m), (2, vB a2)]) ?_ ?_
    ·refine sq (rg (wY (ym z) z (wY (Y.gtr_u (b := 4) z z) z (wY (ym z) z ?_))))
     refine WL.cut 8 (σ := Unit) (fun _ w' => d = w') (fun _ => [(0, vu e), (1, vi m), (2, vB a2), (41, vB ((decide (4 < c)) || ((decide (c = 4)) && (decide ((e % 2) = 1)))))]) ?_ ?_
     ·refine WL.part 33 z (fun C => ?_) (fun C => ?_)
      ·refine WL.gS z z z z (WL.gS z z z z (WL.gS z z z z (WL.gS z z z z (WL.gS z z z z (WL.gS z z z z (WL.gS z z z z (wY (Y.pick (b := true) z z) z (WL.ren (v' := vB ((decide (4 < c)) || ((decide (c = 4)) && (decide ((e % 2) = 1))))) 41 z (congrArg vB (orT C)) ?_))))))))
       exact nl (At.join () z (.cons z (.cons z (.cons z (.cons z .nil)))))
      ·refine ug z z (wY (ym z) z (ug z z (wY (Y.eql_u (b := 4) z z) z (ug z z (wY (ym z) z ?_)))))
       refine WL.cut 4 (σ := Unit) (fun _ w' => d = w') (fun _ => [(0, vu e), (1, vi m), (2, vB a2), (33, vB false), (40, vB ((decide (c = 4)) && (decide ((e % 2) = 1))))]) ?_ ?_
       ·refine WL.part 36 z (fun D => ?_) (fun D => ?_)
        ·refine ug z z (wY (ym z) z (ug z z (wY (Y.rem_u (b := 2) (by decide) z z) z (ug z z (wY (Y.eql_u (b := 1) z z) z (ug z z (wY (Y.pick (b := true) z z) z (WL.ren (v' := vB ((decide (c = 4)) && (decide ((e % 2) = 1)))) 40 z (congrArg vB (andT D)) ?_))))))))
         exact nl (At.join () z (.cons z (.cons z (.cons z (.cons z (.cons z .nil))))))
        ·refine WL.gS z z z z (WL.gS z z z z (WL.gS z z z z (ug z z (wY (Y.pick (b := false) z z) z (WL.ren (v' := vB ((decide (c = 4)) && (decide ((e % 2) = 1)))) 40 z (congrArg vB (andF D)) ?_)))))
         exact nl (At.join () z (.cons z (.cons z (.cons z (.cons z (.cons z .nil))))))
       ·rintro _ _ rfl
        refine (show WL _ _ _ _ _ [(0, vu e), (1, vi m), (2, vB a2), (33, vB false), (40, vB ((decide (c = 4)) && (decide ((e % 2) = 1))))] _ from ?_)
        refine wY (Y.pick (b := false) z z) z (WL.ren (v' := vB ((decide (4 < c)) || ((decide (c = 4)) && (decide ((e % 2) = 1))))) 41 z (congrArg vB (orF C)) ?_)
        exact nl (At.join () z (.cons z (.cons z (.cons z (.cons z .nil)))))
     ·rintro _ _ rfl
      refine (show WL _ _ _ _ _ [(0, vu e), (1, vi m), (2, vB a2), (41, vB ((decide (4 < c)) || ((decide (c = 4)) && (decide ((e % 2) = 1)))))] _ from ?_)
      refine nl (th ?_)
      rcases cnd h with ⟨F, h⟩ | ⟨F, h⟩
      ·refine WC.condT' z F (rg (wY (ym z) z (wY (Y.add_u (b := 1) z z) z ?_)))
       obtain ⟨a3, aD, h⟩ := lt1 h
       refine WL.yE (ya z) (congrArg vu aD.symm) z (nl ?_)
       exact At.join (σ := UInt64) a3 ⟨some1 h, z⟩ (.cons z (.cons z (.cons z .nil)))
      ·refine WC.condF' z F (sk ?_)
       exact At.join (σ := UInt64) e ⟨some1 h, z⟩ (.cons z (.cons z (.cons z .nil)))
    ·rintro am _ ⟨rfl, rfl⟩
     replace h := aC
     try dsimp only at h
     refine (show At _ _ _ [(0, vu am), (1, vi m), (2, vB a2)] _ from ?_)
     refine th (sq ?_)
     obtain ⟨a4, h, aE⟩ := bnd h
     refine WC.join (σ := (UInt64 × Int)) (fun x w' => (x.1, x.2) = a4 ∧ d = w') (fun x => [(0, vu x.1), (1, vi x.2), (2, vB a2)]) ?_ ?_
     ·refine sq (rg (wY (ym z) z (wY (Y.geq_u (b := 9007199254740992) z z) z (nl (th ?_)))))
      rcases cnd h with ⟨G, h⟩ | ⟨G, h⟩
      ·refine WC.condT' z G (sq (rg (wY (ym z) z (wY (Y.quo_u (b := 2) (by decide) z z) z ?_))))
       obtain ⟨a5, aF, h⟩ := lt1 h
       refine WL.yE (ya z) (congrArg vu aF.symm) z (nl (th (rg (wY (ym z) z (wY (Y.add_i z z) z ?_)))))
       obtain ⟨a6, aG, h⟩ := lt1 h
       refine WL.yE (ya z) (congrArg vi aG.symm) z (nl ?_)
       exact At.join (σ := (UInt64 × Int)) (a5, a6) ⟨some1 h, z⟩ (.cons z (.cons z (.cons z .nil)))
      ·refine WC.condF' z G (sk ?_)
       exact At.join (σ := (UInt64 × Int)) (am, m) ⟨some1 h, z⟩ (.cons z (.cons z (.cons z .nil)))
     ·rintro ⟨an, a7⟩ _ ⟨rfl, rfl⟩
      replace h := aE
      try dsimp only at h
      refine (show At _ _ _ [(0, vu an), (1, vi a7), (2, vB a2)] _ from ?_)
      refine th (sq (rg (wY (ya (v := vu 9218868437227405312) z) z (nl (th (sq ?_))))))
      obtain ⟨a8, h, aH⟩ := bnd h
      refine WC.join (σ := UInt64) (fun x w' => x = a8 ∧ d = w') (fun x => [(2, vB a2), (8, vu x)]) ?_ ?_
      ·refine sq (rg (wY (ym z) z (wY (Y.lss_i z z) z (nl (th ?_)))))
       rcases cnd h with ⟨H, h⟩ | ⟨H, h⟩
       ·refine WC.condT' z H (sq (rg (wY (ym z) z (wY (ya z) z (nl (th (sq (rg (wY (ym z) z ?_)))))))))
        refine wY (Y.geq_u (b := 4503599627370496) z z) z (nl (th ?_))
        rcases cnd h with ⟨I, h⟩ | ⟨I, h⟩
        ·refine WC.condT' z I (rg (wY (ym z) z (wY (Y.sub_u (b := 4503599627370496) z z) z (wY (ym z) z (wY (Y.conv_iu ty3.u ty25.u z) z (wY (Y.mul_u (b := 4503599627370496) z z) z (wY (Y.add_u z z) z ?_)))))))
         obtain ⟨U, S, h⟩ := lt1 h
         refine WL.yE (ya z) (congrArg vu S.symm) z (nl ?_)
         exact At.join (σ := UInt64) U ⟨some1 h, z⟩ (.cons z (.cons z .nil))
        ·refine WC.condF' z I (sk ?_)
         exact At.join (σ := UInt64) an ⟨some1 h, z⟩ (.cons z (.cons z .nil))
       ·refine WC.condF' z H (sk ?_)
        exact At.join (σ := UInt64) 9218868437227405312 ⟨some1 h, z⟩ (.cons z (.cons z .nil))
      ·rintro V _ ⟨rfl, rfl⟩
       replace h := aH
       try dsimp only at h
       refine (show At _ _ _ [(2, vB a2), (8, vu V)] _ from ?_)
       refine th (sq (sq (rg (wY (ym z) z (nl (th ?_))))))
       rcases cnd h with ⟨J, h⟩ | ⟨J, h⟩
       ·refine WC.condT' z J (sq (rg (wY (ym z) z (wY (Y.add_u (b := 9223372036854775808) z z) z ?_))))
        obtain ⟨bg, aI, h⟩ := lt1 h
        refine WL.yE (ya z) (congrArg vu aI.symm) z (nl (th (rt (At.thenR ?_))))
        obtain rfl := some1 h
        have aJ : Stp [] (Lg.O0 (fun _ => False)) w ah d := (su_ o z)
        exact At.res (.inl z) z (.tmp z .nil) ⟨z, (se_ aJ z z)⟩
       ·refine WC.condF' z J (sk (th (sq (rg (wY (ym z) z (wY (ya z) z (nl (th (rt ?_)))))))))
        obtain rfl := some1 h
        have aK : Stp [] (Lg.O0 (fun _ => False)) w ah d := (su_ o z)
        exact At.res (.inl z) z (.tmp z .nil) ⟨z, (se_ aK z z)⟩
theorem c_ref05_Add {a0 : UInt64} {a1 : UInt64} {w : World} {r0 : UInt64} (h : ref05_Add a0 a1 = some r0) : Rets Try.prog 79 [vu a0, vu a1] w (fun v w' => v = vu r0 ∧ Ext w w') := by
 unfold ref05_Add at h
 refine Rets.enter Try.func79 z z ?_
 refine (show WC _ _ _ _ [(0, vu a0), (1, vu a1)] _ from ?_)
 refine sq (rg (wY (ya (v := vu 0) z) z (nl (th (sq (sq (rg (wY (ym z) z ?_))))))))
 obtain ⟨cu, aX, h⟩ := bnd h
 refine WL.call (vals := [vu a0]) kok101 z z (c_ref05_Odd aX) ?_
 rintro ch aY ⟨rfl, aZ⟩
 obtain ⟨ab, bL, bM, j⟩ := adoptE (Lg.O0 (fun _ => False)) (fun k => 1) aZ
 refine wY (ym z) z ?_
 obtain ⟨bO, h, a2⟩ := bnd h
 refine WL.cut 3 (σ := (Bool × Own)) (fun x w' => x.1 = bO ∧ Stp [] ab aY x.2 w') (fun x => [(0, vu a0), (1, vu a1), (16, vB x.1)]) ?_ ?_
 ·rcases cnd h with ⟨P, h⟩ | ⟨P, h⟩
  ·refine WL.ren 13 z (congrArg vB P) (WL.gS z z z z (WL.gS z z z z (wY (Y.pick (b := true) z z) z ?_)))
   exact nl (At.join (σ := (Bool × Own)) (true, ab) ⟨some1 h, (sr_ _ _ _)⟩ (.cons z (.cons z (.cons z .nil))))
  ·refine WL.ren 13 z (congrArg vB P) (ug z z (wY (ym z) z (ug z z ?_)))
   obtain ⟨bP, a3, h⟩ := bnd h
   refine WL.call (vals := [vu a1]) kok101 z z (c_ref05_Odd a3) ?_
   rintro ci cj ⟨rfl, a4⟩
   obtain ⟨bQ, bR, bS, aq⟩ := adoptE ab (fun k => 1) a4
   refine wY (Y.pick (b := false) z z) z ?_
   exact nl (At.join (σ := (Bool × Own)) (bP, bQ) ⟨some1 h, (su_ aq z)⟩ (.cons z (.cons z (.cons z .nil))))
 ·rintro ⟨bT, aS⟩ a5 ⟨rfl, e⟩
  replace h := a2
  try dsimp only at h e
  refine (show WL _ _ _ _ _ [(0, vu a0), (1, vu a1), (16, vB bT)] _ from ?_)
  refine nl (th ?_)
  rcases cnd h with ⟨Q, h⟩ | ⟨Q, h⟩
  ·refine WC.condT' z Q (sq (rg (wY (ya (v := vu 9221120237041090561) z) z (nl (th (rt (At.thenR ?_)))))))
   obtain rfl := some1 h
   have a6 : Stp [] (Lg.O0 (fun _ => False)) w aS a5 := (tr_ (su_ j z) (su_ e z))
   exact At.res (.inl z) z (.tmp z .nil) ⟨z, (se_ a6 z z)⟩
  ·refine WC.condF' z Q (sk (th (sq (sq (rg (wY (ym z) z ?_))))))
   obtain ⟨cv, a7, h⟩ := bnd h
   refine WL.call (vals := [vu a0]) kok80 z z (c_ref05_Finite a7) ?_
   rintro ck a8 ⟨rfl, a9⟩
   obtain ⟨ac, bU, bW, n⟩ := adoptE aS (fun k => 1) a9
   refine wY (Y.not z) z (wY (ym z) z ?_)
   obtain ⟨bX, h, ba⟩ := bnd h
   refine WL.cut 4 (σ := (Bool × Own)) (fun x w' => x.1 = bX ∧ Stp [] ac a8 x.2 w') (fun x => [(0, vu a0), (1, vu a1), (24, vB x.1)]) ?_ ?_
   ·rcases cnd h with ⟨S, h⟩ | ⟨S, h⟩
    ·refine WL.ren 20 z (congrArg vB S) (ug z z (wY (ym z) z (ug z z ?_)))
     obtain ⟨bY, bb, h⟩ := bnd h
     refine WL.call (vals := [vu a1]) kok80 z z (c_ref05_Finite bb) ?_
     rintro cl cm ⟨rfl, bc⟩
     obtain ⟨bZ, b0, b1, ar⟩ := adoptE ac (fun k => 1) bc
     refine ug z z (wY (Y.not z) z (wY (Y.pick (b := true) z z) z ?_))
     exact nl (At.join (σ := (Bool × Own)) ((!bY), bZ) ⟨some1 h, (su_ ar z)⟩ (.cons z (.cons z (.cons z .nil))))
    ·refine WL.ren 20 z (congrArg vB S) (WL.gS z z z z (WL.gS z z z z (WL.gS z z z z (wY (Y.pick (b := false) z z) z ?_))))
     exact nl (At.join (σ := (Bool × Own)) (false, ac) ⟨some1 h, (sr_ _ _ _)⟩ (.cons z (.cons z (.cons z .nil))))
   ·rintro ⟨M, aT⟩ ad ⟨rfl, l⟩
    replace h := ba
    try dsimp only at h l
    refine (show WL _ _ _ _ _ [(0, vu a0), (1, vu a1), (24, vB M)] _ from ?_)
    refine wY (ym z) z ?_
    refine WL.cut 4 (σ := Unit) (fun _ w' => ad = w') (fun _ => [(0, vu a0), (1, vu a1), (29, vB (M && (!decide (a0 = a1))))]) ?_ ?_
    ·refine WL.part 25 z (fun T => ?_) (fun T => ?_)
     ·refine ug z z (wY (ym z) z (ug z z (wY (ym z) z (ug z z (wY (Y.neq_u z z) z (wY (Y.pick (b := true) z z) z (WL.ren (v' := vB (M && (!decide (a0 = a1)))) 29 z (congrArg vB (andT T)) ?_)))))))
      exact nl (At.join () z (.cons z (.cons z (.cons z .nil))))
     ·refine WL.gS z z z z (WL.gS z z z z (WL.gS z z z z (wY (Y.pick (b := false) z z) z (WL.ren (v' := vB (M && (!decide (a0 = a1)))) 29 z (congrArg vB (andF T)) ?_))))
      exact nl (At.join () z (.cons z (.cons z (.cons z .nil))))
    ·rintro _ _ rfl
     refine (show WL _ _ _ _ _ [(0, vu a0), (1, vu a1), (29, vB (M && (!decide (a0 = a1))))] _ from ?_)
     refine nl (th ?_)
     rcases cnd h with ⟨U, h⟩ | ⟨U, h⟩
     ·refine WC.condT' z U (sq (rg (wY (ya (v := vu 9221120237041090561) z) z (nl (th (rt (At.thenR ?_)))))))
      obtain rfl := some1 h
      have bd : Stp [] (Lg.O0 (fun _ => False)) w aT ad := (tr_ (su_ j z) (tr_ (su_ e z) (tr_ (su_ n z) (su_ l z))))
      exact At.res (.inl z) z (.tmp z .nil) ⟨z, (se_ bd z z)⟩
     ·refine WC.condF' z U (sk (th (sq (sq (rg (wY (ym z) z ?_))))))
      obtain ⟨cw, bf, h⟩ := bnd h
      refine WL.call (vals := [vu a0]) kok80 z z (c_ref05_Finite bf) ?_
      rintro cn bg ⟨rfl, bh⟩
      obtain ⟨aU, b2, b3, q⟩ := adoptE aT (fun k => 1) bh
      refine wY (Y.not z) z (nl (th ?_))
      rcases cnd h with ⟨V, h⟩ | ⟨V, h⟩
      ·refine WC.condT' z V (sq (rg (wY (ym z) z (wY (ya z) z (nl (th (rt (At.thenR ?_))))))))
       obtain rfl := some1 h
       have bi : Stp [] (Lg.O0 (fun _ => False)) w aU bg := (tr_ (su_ j z) (tr_ (su_ e z) (tr_ (su_ n z) (tr_ (su_ l z) (su_ q z)))))
       exact At.res (.inl z) z (.tmp z .nil) ⟨z, (se_ bi z z)⟩
      ·refine WC.condF' z V (sk (th (sq (sq (rg (wY (ym z) z ?_))))))
       obtain ⟨cx, bj, h⟩ := bnd h
       refine WL.call (vals := [vu a1]) kok80 z z (c_ref05_Finite bj) ?_
       rintro co bk ⟨rfl, bl⟩
       obtain ⟨aW, b4, b5, r⟩ := adoptE aU (fun k => 1) bl
       refine wY (Y.not z) z (nl (th ?_))
       rcases cnd h with ⟨W, h⟩ | ⟨W, h⟩
       ·refine WC.condT' z W (sq (rg (wY (ym z) z (wY (ya z) z (nl (th (rt (At.thenR ?_))))))))
        obtain rfl := some1 h
        have bm : Stp [] (Lg.O0 (fun _ => False)) w aW bk := (tr_ (su_ j z) (tr_ (su_ e z) (tr_ (su_ n z) (tr_ (su_ l z) (tr_ (su_ q z) (su_ r z))))))
        exact At.res (.inl z) z (.tmp z .nil) ⟨z, (se_ bm z z)⟩
       ·refine WC.condF' z W (sk (th (sq (rg (wY (ym z) z ?_)))))
        obtain ⟨⟨cy, ae⟩, bn, h⟩ := bnd h
        refine WL.call (vals := [vu a0]) kok102 z z (c_ref05_wide bn) ?_
        rintro cp cq ⟨rfl, bo⟩
        obtain ⟨b6, b7, b8, C⟩ := adoptE aW (fun k => 1) bo
        refine wY (ym z) z (wY (yx z z) z (wY (yx z z) z (wY (ya z) z (wY (ya z) z (nl (th (sq (rg (wY (ym z) z ?_)))))))))
        obtain ⟨⟨cz, af⟩, au, h⟩ := bnd h
        refine WL.call (vals := [vu a1]) kok102 z z (c_ref05_wide au) ?_
        rintro b9 av ⟨rfl, aw⟩
        obtain ⟨Z, bz, bA, t⟩ := adoptE b6 (fun k => 1) aw
        refine wY (ym z) z (wY (yx z z) z (wY (yx z z) z (wY (ya z) z (wY (ya z) z (nl (th (sq (rg (wY (ym z) z ?_)))))))))
        refine wY (Y.mul_u (a := 8) z z) z ?_
        obtain ⟨ah, ax, h⟩ := lt1 h
        refine WL.yE (ya z) (congrArg vu ax.symm) z (nl (th (sq (rg (wY (ym z) z (wY (Y.mul_u (a := 8) z z) z ?_))))))
        obtain ⟨aa, ai, h⟩ := lt1 h
        refine WL.yE (ya z) (congrArg vu ai.symm) z (nl (th (sq ?_)))
        obtain ⟨bp, h, ay⟩ := bnd h
        refine WC.join (σ := (UInt64 × Int × UInt64 × Own)) (fun x w' => (x.1, x.2.1, x.2.2.1) = bp ∧ Stp [] Z av x.2.2.2 w') (fun x => [(0, vu a0), (1, vu a1), (5, vu x.1), (6, vi x.2.1), (7, vu x.2.2.1)]) ?_ ?_
        ·refine sq (rg (wY (ym z) z (wY (ym z) z (wY (Y.lss_i z z) z (nl (th ?_))))))
         rcases cnd h with ⟨D, h⟩ | ⟨D, h⟩
         ·refine WC.condT' z D (sq (rg (wY (ym z) z (wY (ym z) z (wY (ym z) z (wY (Y.sub_i z z) z ?_))))))
          obtain ⟨bq, az, h⟩ := bnd h
          refine WL.call (vals := [vu ah, vi (w64 (af - ae))]) kok103 z z (c_ref05_shifted az) ?_
          rintro ca cb ⟨rfl, aA⟩
          obtain ⟨br, bB, bC, aj⟩ := adoptE Z (fun k => 1) aA
          refine wY (ya z) z (nl (th (rg (wY (ym z) z (wY (ya z) z (nl ?_))))))
          exact At.join (σ := (UInt64 × Int × UInt64 × Own)) (bq, af, aa, br) ⟨some1 h, (su_ aj z)⟩ (.cons z (.cons z (.cons z (.cons z (.cons z .nil)))))
         ·refine WC.condF' z D (rg (wY (ym z) z (wY (ym z) z (wY (ym z) z (wY (Y.sub_i z z) z ?_)))))
          obtain ⟨bs, aC, h⟩ := bnd h
          refine WL.call (vals := [vu aa, vi (w64 (ae - af))]) kok103 z z (c_ref05_shifted aC) ?_
          rintro cc cd ⟨rfl, aD⟩
          obtain ⟨bt, bD, bE, ak⟩ := adoptE Z (fun k => 1) aD
          refine wY (ya z) z (nl ?_)
          exact At.join (σ := (UInt64 × Int × UInt64 × Own)) (ah, ae, bs, bt) ⟨some1 h, (su_ ak z)⟩ (.cons z (.cons z (.cons z (.cons z (.cons z .nil)))))
        ·rintro ⟨d, o, c, F⟩ G ⟨rfl, p⟩
         replace h := ay
         try dsimp only at h p
         refine (show At _ _ _ [(0, vu a0), (1, vu a1), (5, vu d), (6, vi o), (7, vu c)] _ from ?_)
         refine th (sq (rg (wY (ym z) z (wY (Y.geq_u (b := 9223372036854775808) z z) z (wY (ym z) z (wY (Y.geq_u (b := 9223372036854775808) z z) z ?_))))))
         obtain ⟨m, al, h⟩ := lt1 h
         refine WL.yE (ya z) (congrArg vB al.symm) z ?_
         obtain ⟨aE, am, h⟩ := lt1 h
         refine WL.yE (ya z) (congrArg vB am.symm) z (nl (th (sq (sq (rg (wY (ym z) z (wY (ym z) z (wY (Y.eqlB z z ty4.u) z (nl ?_)))))))))
         refine th ?_
         rcases cnd h with ⟨H, h⟩ | ⟨H, h⟩
         ·refine WC.condT' z H (sq (sq (rg (wY (ym z) z (wY (Y.eql_u (b := 0) z z) z (wY (ym z) z ?_))))))
          refine WL.cut 3 (σ := Unit) (fun _ w' => G = w') (fun _ => [(0, vu a0), (5, vu d), (6, vi o), (7, vu c), (9, vB m), (78, vB ((decide (d = 0)) && (decide (c = 0))))]) ?_ ?_
          ·refine WL.part 75 z (fun I => ?_) (fun I => ?_)
           ·refine ug z z (wY (ym z) z (ug z z (wY (Y.eql_u (b := 0) z z) z (wY (Y.pick (b := true) z z) z (WL.ren (v' := vB ((decide (d = 0)) && (decide (c = 0)))) 78 z (congrArg vB (andT I)) ?_)))))
            exact nl (At.join () z (.cons z (.cons z (.cons z (.cons z (.cons z (.cons z .nil)))))))
           ·refine WL.gS z z z z (WL.gS z z z z (wY (Y.pick (b := false) z z) z (WL.ren (v' := vB ((decide (d = 0)) && (decide (c = 0)))) 78 z (congrArg vB (andF I)) ?_)))
            exact nl (At.join () z (.cons z (.cons z (.cons z (.cons z (.cons z (.cons z .nil)))))))
          ·rintro _ _ rfl
           refine (show WL _ _ _ _ _ [(0, vu a0), (5, vu d), (6, vi o), (7, vu c), (9, vB m), (78, vB ((decide (d = 0)) && (decide (c = 0))))] _ from ?_)
           refine nl (th ?_)
           rcases cnd h with ⟨J, h⟩ | ⟨J, h⟩
           ·refine WC.condT' z J (sq (rg (wY (ym z) z (wY (ya z) z (nl (th (rt (At.thenR (At.thenR ?_)))))))))
            obtain rfl := some1 h
            have aF : Stp [] (Lg.O0 (fun _ => False)) w F G := (tr_ (su_ j z) (tr_ (su_ e z) (tr_ (su_ n z) (tr_ (su_ l z) (tr_ (su_ q z) (tr_ (su_ r z) (tr_ (su_ C z) (tr_ (su_ t z) (su_ p z)))))))))
            exact At.res (.inl z) z (.tmp z .nil) ⟨z, (se_ aF z z)⟩
           ·refine WC.condF' z J (sk (th (sq (rg (wY (ym z) z (wY (ym z) z (wY (Y.add_u z z) z (wY (ym z) z (wY (ym z) z ?_)))))))))
            obtain ⟨cr, aG, h⟩ := bnd h
            refine WL.call (vals := [vu (d + c), vi o, vB m]) kok104 z z (c_ref05_round aG) ?_
            rintro ce aH ⟨rfl, aI⟩
            obtain ⟨bu, bF, bG, an⟩ := adoptE F (fun k => 1) aI
            refine wY (ya z) z (nl (th (rt (At.thenR ?_))))
            obtain rfl := some1 h
            have aJ : Stp [] (Lg.O0 (fun _ => False)) w bu aH := (tr_ (su_ j z) (tr_ (su_ e z) (tr_ (su_ n z) (tr_ (su_ l z) (tr_ (su_ q z) (tr_ (su_ r z) (tr_ (su_ C z) (tr_ (su_ t z) (tr_ (su_ p z) (su_ an z))))))))))
            exact At.res (.inl z) z (.tmp z .nil) ⟨z, (se_ aJ z z)⟩
         ·refine WC.condF' z H (sk (th (sq (sq (rg (wY (ym z) z (wY (ym z) z (wY (Y.geq_u z z) z (nl ?_)))))))))
          refine th ?_
          rcases cnd h with ⟨K, h⟩ | ⟨K, h⟩
          ·refine WC.condT' z K (sq (rg (wY (ym z) z (wY (ym z) z (wY (Y.sub_u z z) z (wY (ym z) z (wY (ym z) z (wY (ym z) z ?_))))))))
           refine WL.cut 4 (σ := Unit) (fun _ w' => G = w') (fun _ => [(91, vu (d - c)), (92, vi o), (98, vB (m && (decide (c < d))))]) ?_ ?_
           ·refine WL.part 94 z (fun L => ?_) (fun L => ?_)
            ·refine ug z z (wY (ym z) z (ug z z (wY (ym z) z (ug z z (wY (Y.gtr_u z z) z (wY (Y.pick (b := true) z z) z (WL.ren (v' := vB (m && (decide (c < d)))) 98 z (congrArg vB (andT L)) ?_)))))))
             exact nl (At.join () z (.cons z (.cons z (.cons z .nil))))
            ·refine WL.gS z z z z (WL.gS z z z z (WL.gS z z z z (wY (Y.pick (b := false) z z) z (WL.ren (v' := vB (m && (decide (c < d)))) 98 z (congrArg vB (andF L)) ?_))))
             exact nl (At.join () z (.cons z (.cons z (.cons z .nil))))
           ·rintro _ _ rfl
            refine (show WL _ _ _ _ _ [(91, vu (d - c)), (92, vi o), (98, vB (m && (decide (c < d))))] _ from ?_)
            obtain ⟨cs, aK, h⟩ := bnd h
            refine WL.call (vals := [vu (d - c), vi o, vB (m && (decide (c < d)))]) kok104 z z (c_ref05_round aK) ?_
            rintro cf aL ⟨rfl, aM⟩
            obtain ⟨bw, bH, bI, ao⟩ := adoptE F (fun k => 1) aM
            refine wY (ya z) z (nl (th (rt (At.thenR ?_))))
            obtain rfl := some1 h
            have aN : Stp [] (Lg.O0 (fun _ => False)) w bw aL := (tr_ (su_ j z) (tr_ (su_ e z) (tr_ (su_ n z) (tr_ (su_ l z) (tr_ (su_ q z) (tr_ (su_ r z) (tr_ (su_ C z) (tr_ (su_ t z) (tr_ (su_ p z) (su_ ao z))))))))))
            exact At.res (.inl z) z (.tmp z .nil) ⟨z, (se_ aN z z)⟩
          ·refine WC.condF' z K (sk (th (sq (rg (wY (ym z) z (wY (ym z) z (wY (Y.sub_u z z) z (wY (ym z) z (wY (ym z) z ?_)))))))))
           obtain ⟨ct, aO, h⟩ := bnd h
           refine WL.call (vals := [vu (c - d), vi o, vB aE]) kok104 z z (c_ref05_round aO) ?_
           rintro cg aP ⟨rfl, aQ⟩
           obtain ⟨bx, bJ, bK, ap⟩ := adoptE F (fun k => 1) aQ
           refine wY (ya z) z (nl (th (rt ?_)))
           obtain rfl := some1 h
           have aR : Stp [] (Lg.O0 (fun _ => False)) w bx aP := (tr_ (su_ j z) (tr_ (su_ e z) (tr_ (su_ n z) (tr_ (su_ l z) (tr_ (su_ q z) (tr_ (su_ r z) (tr_ (su_ C z) (tr_ (su_ t z) (tr_ (su_ p z) (su_ ap z))))))))))
           exact At.res (.inl z) z (.tmp z .nil) ⟨z, (se_ aR z z)⟩
end Go.Lg
