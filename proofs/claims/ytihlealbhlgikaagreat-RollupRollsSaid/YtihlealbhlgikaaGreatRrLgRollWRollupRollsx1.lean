/- The walks of RollupRolls and of what it calls, printed by gen.py. -/
import Derived.Test.YtihlealbhlgikaaGreatRrLgRollWRollupRollsx0
set_option linter.unusedVariables false
namespace Go.Lg
open Go Go.Proofs
set_option maxRecDepth 100000
set_option maxHeartbeats 4000000
theorem c_rollup_fits {A : Nat → Prop} {v0_1 : Value} {v0_13 : Value} {v0_15 : Value} {a0 : api_Point} {v1_1 : Value} {v1_13 : Value} {v1_15 : Value} {a1 : api_Point} {w : World} (hs0_1 : Sl rep_api_Pair w A v0_1 a0.Attrs) (hs0_13 : Sl Rep.u w A v0_13 a0.Hist.Pos.Counts) (hs0_15 : Sl Rep.u w A v0_15 a0.Hist.Neg.Counts) (hs1_1 : Sl rep_api_Pair w A v1_1 a1.Attrs) (hs1_13 : Sl Rep.u w A v1_13 a1.Hist.Pos.Counts) (hs1_15 : Sl Rep.u w A v1_15 a1.Hist.Neg.Counts) {r0 : Int} (h : rollup_fits a0 a1 = some r0) : Rets Tryz.prog 21 [ag (cp a0 v0_1 v0_13 v0_15), ag (cp a1 v1_1 v1_13 v1_15)] w (fun v w' => v = vi r0 ∧ Ext w w') := by
 unfold rollup_fits at h
 refine Rets.enter Tryz.func21 z z ?_
 have H : Sl rep_api_Pair w (imm (Lg.O0 A)) v0_1 a0.Attrs := (Sl.start hs0_1)
 have I : Sl Rep.u w (imm (Lg.O0 A)) v0_13 a0.Hist.Pos.Counts := (Sl.start hs0_13)
 have J : Sl Rep.u w (imm (Lg.O0 A)) v0_15 a0.Hist.Neg.Counts := (Sl.start hs0_15)
 have ap : Sl rep_api_Pair w (imm (Lg.O0 A)) v1_1 a1.Attrs := (Sl.start hs1_1)
 have aq : Sl Rep.u w (imm (Lg.O0 A)) v1_13 a1.Hist.Pos.Counts := (Sl.start hs1_13)
 have ar : Sl Rep.u w (imm (Lg.O0 A)) v1_15 a1.Hist.Neg.Counts := (Sl.start hs1_15)
 refine (show WC _ _ _ _ [(0, ag (cp a0 v0_1 v0_13 v0_15)), (1, ag (cp a1 v1_1 v1_13 v1_15))] _ from ?_)
 refine sq (rg ?_)
 have au := h
 obtain ⟨K, L, M, rfl⟩ := H.shape
 have h := au
 have av := h
 obtain ⟨P, Q, S, rfl⟩ := I.shape
 have h := av
 have ax := h
 obtain ⟨T, U, V, rfl⟩ := J.shape
 have h := ax
 refine WL.box (O := (Lg.O0 A)) 11 (cp a0 (vl K L M) (vl P Q S) (vl T U V)) z z z ?_
 intro bg a3 ba j ay
 have W := ap.i j z z
 have az := h
 obtain ⟨X, Z, aa, rfl⟩ := W.shape
 have h := az
 have ab := aq.i j z z
 have aA := h
 obtain ⟨ac, ad, ae, rfl⟩ := ab.shape
 have h := aA
 have af := ar.i j z z
 have aC := h
 obtain ⟨ah, ai, aj, rfl⟩ := af.shape
 have h := aC
 refine WL.box (O := a3) 12 (cp a1 (vl X Z aa) (vl ac ad ae) (vl ah ai aj)) z z z ?_
 intro bh a4 bb d aD
 refine wY (ya z) z (nl (th (sq (rg ?_))))
 have ak := ay.st d z
 refine wY (yL ty40 z z (ak.cells 0 (cp a0 (vl K L M) (vl P Q S) (vl T U V)) z) z) z ?_
 have aF := (H.i j z z).i d z z
 have aH := (I.i j z z).i d z z
 have aJ := (J.i j z z).i d z z
 obtain ⟨⟨bi, bj⟩, aK, h⟩ := bnd h
 refine WL.call (vals := [ag (cp a0 (vl K L M) (vl P Q S) (vl T U V))]) kok48 z z (c_point_Key (A := fun _ => True) (a0 := a0) (Sl.all aF) (Sl.all aH) (Sl.all aJ) aK) ?_
 rintro bc bd ⟨rfl, aL⟩
 obtain ⟨a5, a6, a7, l⟩ := adoptE a4 (fun k => 1) aL
 refine wY (ym z) z (wY (yx z z) z (wY (yx z z) z (wY (ya z) z (wY (ya z) z (nl (th (sq (rg ?_))))))))
 have al := aD.st l z
 refine wY (yL ty40 z z (al.cells 0 (cp a1 (vl X Z aa) (vl ac ad ae) (vl ah ai aj)) z) z) z ?_
 have aN := (W.i d z z).i l z z
 have aP := (ab.i d z z).i l z z
 have aR := (af.i d z z).i l z z
 obtain ⟨⟨bk, bl⟩, aS, h⟩ := bnd h
 refine WL.call (vals := [ag (cp a1 (vl X Z aa) (vl ac ad ae) (vl ah ai aj))]) kok48 z z (c_point_Key (A := fun _ => True) (a0 := a1) (Sl.all aN) (Sl.all aP) (Sl.all aR) aS) ?_
 rintro bf o ⟨rfl, aT⟩
 obtain ⟨G, a8, a9, m⟩ := adoptE a5 (fun k => 1) aT
 refine wY (ym z) z (wY (yx z z) z (wY (yx z z) z (wY (ya z) z (wY (ya z) z (nl (th (sq (WC.block (sq ?_)))))))))
 refine rg (wY (ym z) z (wY (ym z) z (wY (Y.neq_s z z) z ?_)))
 obtain ⟨bm, aU, h⟩ := lt1 h
 refine WL.yE (ya z) (congrArg vB aU.symm) z (nl (th ?_))
 rcases cnd h with ⟨t, h⟩ | ⟨t, h⟩
 ·refine WC.condT' z t (sq (rg (wY (ya z) z (nl (th (rt (At.inBlockR (At.thenR ?_))))))))
  obtain rfl := some1 h
  have aW : Stp [] (Lg.O0 A) w G o := (tr_ (su_ j z) (tr_ (su_ d z) (tr_ (su_ l z) (su_ m z))))
  exact At.res (.inl z) z (.tmp z .nil) ⟨z, (se_ aW z z)⟩
 ·refine WC.condF' z t (sq (rg (wY (yf fo40_6 z) z ?_)))
  have am := al.st m z
  refine wY (yl ty3 z z (am.cell 6 _ z)) z (wY (yf fo40_6 z) z ?_)
  have C := (ak.st l z).st m z
  refine wY (yl ty3 z z (C.cell 6 _ z)) z (wY (Y.leq_i z z) z ?_)
  obtain ⟨bn, aY, h⟩ := lt1 h
  refine WL.yE (ya z) (congrArg vB aY.symm) z (nl (th ?_))
  rcases cnd h with ⟨D, h⟩ | ⟨D, h⟩
  ·refine WC.condT' z D (sq (rg (wY (ya z) z (nl (th (rt (At.inBlockR (At.thenR ?_))))))))
   obtain rfl := some1 h
   have aZ : Stp [] (Lg.O0 A) w G o := (tr_ (su_ j z) (tr_ (su_ d z) (tr_ (su_ l z) (su_ m z))))
   exact At.res (.inl z) z (.tmp z .nil) ⟨z, (se_ aZ z z)⟩
  ·refine WC.condF' z D (sq (rg (wY (yf fo40_3 z) z (wY (yl ty3 z z (C.cell 3 _ z)) z (wY (Y.eql_i z z) z (wY (ym z) z ?_))))))
   refine WL.cut 6 (σ := Unit) (fun _ w' => o = w') (fun _ => [(39, vB ((decide (a0.Temp = 2)) && (decide (a1.Start < a0.Time))))]) ?_ ?_
   ·refine WL.part 33 z (fun E => ?_) (fun E => ?_)
    ·refine ug z z (wY (yf fo40_5 z) z (ug z z (wY (yl ty3 z z (am.cell 5 _ z)) z (ug z z (wY (yf fo40_6 z) z (ug z z (wY (yl ty3 z z (C.cell 6 _ z)) z (ug z z (wY (Y.lss_i z z) z ?_)))))))))
     refine wY (Y.pick (b := true) z z) z (WL.ren (v' := vB ((decide (a0.Temp = 2)) && (decide (a1.Start < a0.Time)))) 39 z (congrArg vB (andT E)) ?_)
     exact nl (At.join () z (.cons z .nil))
    ·refine WL.gS z z z z (WL.gS z z z z (WL.gS z z z z (WL.gS z z z z (WL.gS z z z z (wY (Y.pick (b := false) z z) z (WL.ren (v' := vB ((decide (a0.Temp = 2)) && (decide (a1.Start < a0.Time)))) 39 z (congrArg vB (andF E)) ?_))))))
     exact nl (At.join () z (.cons z .nil))
   ·rintro _ _ rfl
    refine (show WL _ _ _ _ _ [(39, vB ((decide (a0.Temp = 2)) && (decide (a1.Start < a0.Time))))] _ from ?_)
    obtain ⟨bo, a2, h⟩ := lt1 h
    refine WL.yE (ya z) (congrArg vB a2.symm) z (nl (th ?_))
    rcases cnd h with ⟨F, h⟩ | ⟨F, h⟩
    ·refine WC.condT' z F (sq (rg (wY (ya z) z (nl (th (rt (At.inBlockR (At.thenR ?_))))))))
     obtain rfl := some1 h
     have an : Stp [] (Lg.O0 A) w G o := (tr_ (su_ j z) (tr_ (su_ d z) (tr_ (su_ l z) (su_ m z))))
     exact At.res (.inl z) z (.tmp z .nil) ⟨z, (se_ an z z)⟩
    ·refine WC.condF' z F (sk (At.inBlock (th (sq (rg (wY (ya z) z (nl (th (rt ?_)))))))))
     obtain rfl := some1 h
     have ao : Stp [] (Lg.O0 A) w G o := (tr_ (su_ j z) (tr_ (su_ d z) (tr_ (su_ l z) (su_ m z))))
     exact At.res (.inl z) z (.tmp z .nil) ⟨z, (se_ ao z z)⟩
theorem c_slices_Clone_uint64_uint64 {A : Nat → Prop} {a0 : List UInt64} {v0 : Value} {w : World} (hs0 : Sl Rep.u w A v0 a0) {r0 : List UInt64} (h : slices_Clone_uint64_uint64 a0 = some r0) : Rets Tryz.prog 89 [v0] w (fun v w' => ∃ (m : Value), v = m ∧ Ext w w' ∧ RowF Rep.u 33 w w' m r0) := by
  unfold slices_Clone_uint64_uint64 at h
  refine Rets.enter Tryz.func89 z z ?_
  refine (show WC _ _ _ _ [(0, v0)] _ from ?_)
  refine sq (rg (wY (ya z) z (nl (th ?_))))
  refine sq (sq (rg ?_))
  refine wY (ym z) z ?_
  rcases hs0.nilOr with ⟨rfl, rfl⟩ | ⟨q, n, c, rfl⟩
  · refine wY (Y.slnil (p := none) (n := 0) (c := 0) ty34.u z z) z (nl (th ?_))
    refine WC.condT z (sq (rg (wY (ya z) z (nl (th (rt (At.thenR ?_)))))))
    have : r0 = [] := by simpa [app] using h.symm
    subst this
    exact At.res (.inl z) z (.tmp z .nil) ⟨_, z, Ext.refl w, RowF.nil⟩
  · refine wY (Y.slnil (p := some _) ty34.u z z) z (nl (th ?_))
    refine WC.condF z (sk (th ?_))
    refine sq (rg ?_)
    have hs := hs0
    refine WL.buildSlice (O := Lg.O0 A) (R := Rep.u) (vals := []) 11 [] (xs := []) (by decide) ty34 ty33 (by decide) (by decide) (fe_ z) (by kernel_rfl) z z z ?_
    intro v F G d o
    refine wY (ym z) z ?_
    have t := (Sl.start hs).i d z z
    refine WL.append (by decide) ty34 ty33 z (by decide) z z o t.src h z ?_
    intro H D E l C
    refine wY (ya z) z (nl (th (rt ?_)))
    have j : Stp [11] (Lg.O0 A) w D E := (tr_ (su_ d z) l)
    exact At.res (.inl z) z (.tmp z .nil) ⟨_, z, se_ j z z, OwnSl.outF C j low0 z⟩
theorem c_hist_Clone {A : Nat → Prop} {v0_3 : Value} {v0_5 : Value} {a0 : api_Hist} {w : World} (hs0_3 : Sl Rep.u w A v0_3 a0.Pos.Counts) (hs0_5 : Sl Rep.u w A v0_5 a0.Neg.Counts) {r0 : api_Hist} (h : hist_Clone a0 = some r0) : Rets Tryz.prog 50 [ag (hl a0 v0_3 v0_5)] w (fun v w' => ∃ (L : Value) (M : Value), v = ag (hl r0 L M) ∧ Ext w w' ∧ RowF Rep.u 33 w w' L r0.Pos.Counts ∧ RowF Rep.u 33 w w' M r0.Neg.Counts ∧ (∀ k, ob L = some k → ob M ≠ some k)) := by
 unfold hist_Clone at h
 refine Rets.enter Tryz.func50 z z ?_
 have U : Sl Rep.u w (imm (Lg.O0 A)) v0_3 a0.Pos.Counts := (Sl.start hs0_3)
 have V : Sl Rep.u w (imm (Lg.O0 A)) v0_5 a0.Neg.Counts := (Sl.start hs0_5)
 refine (show WC _ _ _ _ [(0, ag (hl a0 v0_3 v0_5))] _ from ?_)
 refine sq (rg ?_)
 have aI := h
 obtain ⟨aC, aD, aE, rfl⟩ := U.shape
 have h := aI
 have aJ := h
 obtain ⟨W, X, Z, rfl⟩ := V.shape
 have h := aJ
 refine WL.box (O := (Lg.O0 A)) 11 (hl a0 (vl aC aD aE) (vl W X Z)) z z z ?_
 intro bp ba bk J P
 refine WL.alloc (O := ba) 12 hzr ty38 z z ?_
 intro bq aF bl m aK
 refine nl (th (sq (WC.drawH [] [0, 1, 2, 3, 4, 5, 6, 7, 8, 9] aF 14 fmix z (by kernel_rfl) ?_)))
 intro bm d
 refine WD.y 0 z (by kernel_rfl) (fun _ _ _ => yf fo38_2 z) z (WD.y 1 z (by kernel_rfl) (fun _ _ _ => yf fo36_1 z) z (WD.y 2 z (by kernel_rfl) (fun bn br af => have aL := P.st m z; have aM := aL.st d z; have aN := aM.st af z; yl ty34 z z (aN.cell 3 _ z)) z (WD.y 4 z (by kernel_rfl) (fun _ _ _ => yf fo38_3 z) z (WD.y 5 z (by kernel_rfl) (fun _ _ _ => yf fo36_1 z) z (WD.y 6 z (by kernel_rfl) (fun bo bs ah => have aO := P.st m z; have aP := aO.st d z; have aQ := aP.st ah z; yl ty34 z z (aQ.cell 5 _ z)) z (WD.heavy 3 z (by kernel_rfl) ?_))))))
 have aT := ((U.i J z z).i m z z).i d z z
 obtain ⟨bb, aU, h⟩ := bnd h
 refine WL.call (vals := [(vl aC aD aE)]) kok89 z z (c_slices_Clone_uint64_uint64 (A := fun _ => True) (Sl.all aT) aU) ?_
 rintro aa aW ⟨_, rfl, aX, bc⟩
 obtain ⟨aG, bd, ab, D⟩ := adoptE aF (fun k => if ob aa = some k then 13 else 1) aX
 have aY : OwnSl 13 Rep.u 33 aG aW aa bb := RowF.adopt 13 Flat.u bc ab (fun k hk => if_pos hk)
 refine nl (At.dq (su_ D z) (WD.y 8 z (by kernel_rfl) (fun _ _ _ => yf fo38_2 z) z (WD.y 9 z (by kernel_rfl) (fun _ _ _ => yf fo36_1 z) z (WD.heavy 7 z (by kernel_rfl) ?_))))
 have a3 := (((V.i J z z).i m z z).i d z z).i D z z
 obtain ⟨bf, a4, h⟩ := bnd h
 refine WL.call (vals := [(vl W X Z)]) kok89 z z (c_slices_Clone_uint64_uint64 (A := fun _ => True) (Sl.all a3) a4) ?_
 rintro ac a5 ⟨_, rfl, a6, bg⟩
 obtain ⟨aH, bh, ad, E⟩ := adoptE aG (fun k => if ob ac = some k then 14 else 1) a6
 have a7 : OwnSl 14 Rep.u 33 aH a5 ac bf := RowF.adopt 14 Flat.u bg ad (fun k hk => if_pos hk)
 refine nl (At.dq (su_ E z) (WD.phase [11] [0, 1, 2, 3, 4, 5, 6, 7, 8, 9, 10, 11, 12] (by kernel_rfl) (by kernel_rfl) (WD.heavy 10 z (by kernel_rfl) ?_)))
 have ae := aY.st E z z z
 have a8 := h
 obtain ⟨F, G, H, rfl⟩ := ae.shape
 have h := a8
 have ak := (((P.st m z).st d z).st D z).st E z
 refine WL.store (v := (vl F G H)) (cells' := (hl a0 (vl F G H) (vl W X Z))) ty34 z z ak z (le_ z) z z ?_
 intro bi j al
 refine nl (At.dq (su_ j z) (WD.y 11 z (by kernel_rfl) (fun _ _ _ => yf fo38_3 z) z (WD.y 12 z (by kernel_rfl) (fun _ _ _ => yf fo36_1 z) z (WD.phase [11] [0, 1, 2, 3, 4, 5, 6, 7, 8, 9, 10, 11, 12, 13] (by kernel_rfl) (by kernel_rfl) (WD.heavy 13 z (by kernel_rfl) ?_)))))
 have Q := a7.st j z z z
 have am := h
 obtain ⟨o, t, C, rfl⟩ := Q.shape
 have h := am
 refine WL.store (v := (vl o t C)) (cells' := (hl a0 (vl F G H) (vl o t C))) ty34 z z al z (le_ z) z z ?_
 intro bj l an
 refine nl (At.dq (su_ l z) (WD.done_ (by kernel_rfl) (th (sq (rg (wY (yL ty38 z z (an.cells 0 (hl a0 (vl F G H) (vl o t C)) z) z) z ?_))))))
 have au := ((((aK.st d z).st D z).st E z).st j z).st l z
 refine WL.store (v := ag (hl a0 (vl F G H) (vl o t C))) (cells' := (hl a0 (vl F G H) (vl o t C))) ty38 z z au z (le_ z) z z ?_
 intro av I ax
 refine nl (th (rt ?_))
 obtain rfl := some1 h
 have K : Stp [11, 12] (Lg.O0 A) w aH av := (tr_ (su_ J z) (tr_ (su_ m z) (tr_ (su_ d z) (tr_ (su_ D z) (tr_ (su_ E z) (tr_ (su_ j z) (tr_ (su_ l z) (su_ I z))))))))
 have S := ((ae.st j z z z).st l z z z).st I z z z
 have T := (Q.st l z z z).st I z z z
 exact At.res (.inl z) z (.cell z (ax.runAg 0 (hl a0 (vl F G H) (vl o t C)) ty38 z z z) .nil) ⟨(vl F G H), (vl o t C), z, (se_ K z z), (OwnSl.outF S K low0 z), (OwnSl.outF T K low0 z), (ne_own S T z)⟩
theorem c_point_Clone {A : Nat → Prop} {v0_1 : Value} {v0_13 : Value} {v0_15 : Value} {a0 : api_Point} {w : World} (hs0_1 : Sl rep_api_Pair w A v0_1 a0.Attrs) (hs0_13 : Sl Rep.u w A v0_13 a0.Hist.Pos.Counts) (hs0_15 : Sl Rep.u w A v0_15 a0.Hist.Neg.Counts) {r0 : api_Point} (h : point_Clone a0 = some r0) : Rets Tryz.prog 22 [ag (cp a0 v0_1 v0_13 v0_15)] w (fun v w' => ∃ (T : Value) (F : Value) (G : Value), v = ag (cp r0 T F G) ∧ Ext w w' ∧ RowF rep_api_Pair 67 w w' T r0.Attrs ∧ RowF Rep.u 33 w w' F r0.Hist.Pos.Counts ∧ RowF Rep.u 33 w w' G r0.Hist.Neg.Counts ∧ (∀ k, ob T = some k → ob F ≠ some k) ∧ (∀ k, ob T = some k → ob G ≠ some k) ∧ (∀ k, ob F = some k → ob G ≠ some k)) := by
 unfold point_Clone at h
 refine Rets.enter Tryz.func22 z z ?_
 have af : Sl rep_api_Pair w (imm (Lg.O0 A)) v0_1 a0.Attrs := (Sl.start hs0_1)
 have ah : Sl Rep.u w (imm (Lg.O0 A)) v0_13 a0.Hist.Pos.Counts := (Sl.start hs0_13)
 have ai : Sl Rep.u w (imm (Lg.O0 A)) v0_15 a0.Hist.Neg.Counts := (Sl.start hs0_15)
 refine (show WC _ _ _ _ [(0, ag (cp a0 v0_1 v0_13 v0_15))] _ from ?_)
 refine sq (rg ?_)
 have aI := h
 obtain ⟨aD, aE, aF, rfl⟩ := af.shape
 have h := aI
 have aJ := h
 obtain ⟨Z, aa, ab, rfl⟩ := ah.shape
 have h := aJ
 have aK := h
 obtain ⟨ac, ad, ae, rfl⟩ := ai.shape
 have h := aK
 refine WL.box (O := (Lg.O0 A)) 11 (cp a0 (vl aD aE aF) (vl Z aa ab) (vl ac ad ae)) z z z ?_
 intro bu bg bp H aL
 refine WL.alloc (O := bg) 12 [vs [], sn, vi 0, vi 0, vB false, vi 0, vi 0, vi 0, vu 0, vu 0, vi 0, vu 0, vi 0, sn, vi 0, sn, vi 0] ty40 z z ?_
 intro bw bh bq j aM
 refine nl (th (sq (rg (wY (yf fo40_1 z) z ?_))))
 have aj := aL.st j z
 refine wY (yl ty32 z z (aj.cell 1 _ z)) z ?_
 have aO := (af.i H z z).i j z z
 obtain ⟨bi, aP, h⟩ := bnd h
 refine WL.call (vals := [(vl aD aE aF)]) kok49 z z (c_slices_Clone_api_Pair_api_Pair (A := fun _ => True) (Sl.all aO) aP) ?_
 rintro ak aQ ⟨_, rfl, aR, bj⟩
 obtain ⟨aG, bk, al, l⟩ := adoptE bh (fun k => if ob ak = some k then 13 else 1) aR
 have am : OwnSl 13 rep_api_Pair 67 aG aQ ak bi := RowF.adopt 13 flat_api_Pair bj al (fun k hk => if_pos hk)
 refine wY (yf fo40_1 z) z ?_
 have aS := h
 obtain ⟨C, D, E, rfl⟩ := am.shape
 have h := aS
 have aT := aj.st l z
 refine WL.store (v := (vl C D E)) (cells' := (cp a0 (vl C D E) (vl Z aa ab) (vl ac ad ae))) ty32 z z aT z (le_ z) z z ?_
 intro br m an
 refine nl (th (sq (rg (wY (yf fo40_10 z) z (wY (yL ty38 z z (an.cells 10 (hl a0.Hist (vl Z aa ab) (vl ac ad ae)) z) z) z ?_)))))
 have aY := (((ah.i H z z).i j z z).i l z z).i m z z
 have a3 := (((ai.i H z z).i j z z).i l z z).i m z z
 obtain ⟨d, a4, h⟩ := bnd h
 refine WL.call (vals := [ag (hl a0.Hist (vl Z aa ab) (vl ac ad ae))]) kok50 z z (c_hist_Clone (A := fun _ => True) (a0 := a0.Hist) (Sl.all aY) (Sl.all a3) a4) ?_
 rintro bs ao ⟨ap, aH, rfl, a5, bl, bm, bn⟩
 obtain ⟨aq, bo, X, I⟩ := adoptE aG (fun k => if ob ap = some k then 14 else if ob aH = some k then 15 else 1) a5
 have ar : OwnSl 14 Rep.u 33 aq ao ap d.Pos.Counts := RowF.adopt 14 Flat.u bl X (fun k hk => if_pos hk)
 have au : OwnSl 15 Rep.u 33 aq ao aH d.Neg.Counts := RowF.adopt 15 Flat.u bm X (fun k hk => (if_neg (fun (e : ob ap = some k) => bn k e hk)).trans (if_pos hk))
 refine wY (yf fo40_10 z) z ?_
 have a6 := h
 obtain ⟨K, L, M, rfl⟩ := ar.shape
 have h := a6
 have a7 := h
 obtain ⟨P, Q, S, rfl⟩ := au.shape
 have h := a7
 have a8 := an.st I z
 refine WL.store (v := ag (hl d (vl K L M) (vl P Q S))) (cells' := [vs a0.Name, (vl C D E), vi a0.Kind, vi a0.Temp, vB a0.Mono, vi a0.Start, vi a0.Time, vi a0.Int_, vu a0.Re, vu a0.Im, vi d.Scale, vu d.Zero, vi d.Pos.Offset, (vl K L M), vi d.Neg.Offset, (vl P Q S), vi a0.Flags]) ty38 z z a8 z (le_ z) z z ?_
 intro bt o a9
 refine nl (th (sq (rg (wY (yL ty40 z z (a9.cells 0 [vs a0.Name, (vl C D E), vi a0.Kind, vi a0.Temp, vB a0.Mono, vi a0.Start, vi a0.Time, vi a0.Int_, vu a0.Re, vu a0.Im, vi d.Scale, vu d.Zero, vi d.Pos.Offset, (vl K L M), vi d.Neg.Offset, (vl P Q S), vi a0.Flags] z) z) z ?_))))
 have bd := (((aM.st l z).st m z).st I z).st o z
 refine WL.store (v := ag [vs a0.Name, (vl C D E), vi a0.Kind, vi a0.Temp, vB a0.Mono, vi a0.Start, vi a0.Time, vi a0.Int_, vu a0.Re, vu a0.Im, vi d.Scale, vu d.Zero, vi d.Pos.Offset, (vl K L M), vi d.Neg.Offset, (vl P Q S), vi a0.Flags]) (cells' := [vs a0.Name, (vl C D E), vi a0.Kind, vi a0.Temp, vB a0.Mono, vi a0.Start, vi a0.Time, vi a0.Int_, vu a0.Re, vu a0.Im, vi d.Scale, vu d.Zero, vi d.Pos.Offset, (vl K L M), vi d.Neg.Offset, (vl P Q S), vi a0.Flags]) ty40 z z bd z (le_ z) z z ?_
 intro bf t av
 refine nl (th (rt ?_))
 obtain rfl := some1 h
 have J : Stp [11, 12] (Lg.O0 A) w aq bf := (tr_ (su_ H z) (tr_ (su_ j z) (tr_ (su_ l z) (tr_ (su_ m z) (tr_ (su_ I z) (tr_ (su_ o z) (su_ t z)))))))
 have U := (((am.st m z z z).st I z z z).st o z z z).st t z z z
 have V := (ar.st o z z z).st t z z z
 have W := (au.st o z z z).st t z z z
 exact At.res (.inl z) z (.cell z (av.runAg 0 [vs a0.Name, (vl C D E), vi a0.Kind, vi a0.Temp, vB a0.Mono, vi a0.Start, vi a0.Time, vi a0.Int_, vu a0.Re, vu a0.Im, vi d.Scale, vu d.Zero, vi d.Pos.Offset, (vl K L M), vi d.Neg.Offset, (vl P Q S), vi a0.Flags] ty40 z z z) .nil) ⟨(vl C D E), (vl K L M), (vl P Q S), z, (se_ J z z), (OwnSl.outF U J low0 z), (OwnSl.outF V J low0 z), (OwnSl.outF W J low0 z), (ne_own U V z), (ne_own U W z), (ne_own V W z)⟩
theorem c_num_Odd {a0 : UInt64} {w : World} {r0 : Bool} (h : num_Odd a0 = some r0) : Rets Tryz.prog 163 [vu a0] w (fun v w' => v = vB r0 ∧ Ext w w') := by
 unfold num_Odd at h
 refine Rets.enter Tryz.func163 z z ?_
 refine (show WC _ _ _ _ [(0, vu a0)] _ from ?_)
 refine sq (rg (wY (ya z) z (nl (th (sq (rg (wY (ym z) z (wY (Y.andNot_u (b := 9223372036854775808) z z) z (wY (Y.gtr_u (b := 9218868437227405312) z z) z ?_)))))))))
 obtain ⟨l, d, h⟩ := lt1 h
 refine WL.yE (ya z) (congrArg vB d.symm) z (nl (th (rt ?_)))
 obtain rfl := some1 h
 have j : Stp [] (Lg.O0 (fun _ => False)) w (Lg.O0 (fun _ => False)) w := (sr_ _ _ _)
 exact At.res (.inl z) z (.tmp z .nil) ⟨z, (se_ j z z)⟩
theorem c_num_Canon {a0 : UInt64} {w : World} {r0 : UInt64} (h : num_Canon a0 = some r0) : Rets Tryz.prog 145 [vu a0] w (fun v w' => v = vu r0 ∧ Ext w w') := by
 unfold num_Canon at h
 refine Rets.enter Tryz.func145 z z ?_
 refine (show WC _ _ _ _ [(0, vu a0)] _ from ?_)
 refine sq (rg (wY (ya (v := vu 0) z) z (nl (th (sq (sq (rg (wY (ym z) z ?_))))))))
 obtain ⟨H, o, h⟩ := bnd h
 refine WL.call (vals := [vu a0]) kok163 z z (c_num_Odd o) ?_
 rintro G l ⟨rfl, t⟩
 obtain ⟨m, E, F, j⟩ := adoptE (Lg.O0 (fun _ => False)) (fun k => 1) t
 refine nl (th ?_)
 rcases cnd h with ⟨d, h⟩ | ⟨d, h⟩
 ·refine WC.condT' z d (sq (rg (wY (ya (v := vu 9221120237041090561) z) z (nl (th (rt (At.thenR ?_)))))))
  obtain rfl := some1 h
  have C : Stp [] (Lg.O0 (fun _ => False)) w m l := (su_ j z)
  exact At.res (.inl z) z (.tmp z .nil) ⟨z, (se_ C z z)⟩
 ·refine WC.condF' z d (sk (th (sq (rg (wY (ym z) z (wY (ya z) z (nl (th (rt ?_)))))))))
  obtain rfl := some1 h
  have D : Stp [] (Lg.O0 (fun _ => False)) w m l := (su_ j z)
  exact At.res (.inl z) z (.tmp z .nil) ⟨z, (se_ D z z)⟩
theorem num_Canon_eq (a : UInt64) : num_Canon a = some (fCan a.toNat) := by
  have e : UInt64.ofNat a.toNat = a := UInt64.toNat_inj.1 (by rw [UInt64.toNat_ofNat']; have := UInt64.toNat_lt a; omega)
  unfold num_Canon num_Odd fCan lett
  rw [fodd_of]
  cases fOdd a.toNat
  · rw [if_neg (by simp), e]; rfl
  · rw [if_pos rfl]; rfl
theorem c_num_bits {r : Nat} {w : World} (hr : r < 18446744073709551616) : Rets Tryz.prog 123 [.float .f64 r] w (fun v w' => v = vu (fCan r) ∧ Ext w w') := by
  refine Rets.enter Tryz.func123 z z ?_
  refine (show WC _ _ _ _ [(0, .float .f64 r)] _ from ?_)
  refine sq (rg (wY (ya (v := vu 0) z) z (nl (th ?_))))
  refine sq (rg ?_)
  refine wY (ym z) z ?_
  have er : (UInt64.ofNat r).toNat = r := by rw [UInt64.toNat_ofNat']; omega
  refine wY (Y.fbits xbits_146 hr z) z (WL.call (vals := [vu (UInt64.ofNat r)]) kok145 z z (c_num_Canon (num_Canon_eq _)) ?_)
  rintro C j ⟨rfl, l⟩
  obtain ⟨t, m, o, d⟩ := adoptE (Lg.O0 (fun _ => False)) (fun k => 1) l
  refine wY (ya z) z (nl (th (rt ?_)))
  have hs : Stp [] (Lg.O0 (fun _ => False)) w t j := (su_ d z)
  rw [er]
  exact At.res (.inl z) z (.tmp z .nil) ⟨z, se_ hs z z⟩
theorem c_num_Add {a0 : UInt64} {a1 : UInt64} {w : World} {r0 : UInt64} (h : num_Add a0 a1 = some r0) : Rets Tryz.prog 90 [vu a0, vu a1] w (fun v w' => v = vu r0 ∧ Ext w w') := by
  unfold num_Add at h
  obtain rfl := some1 h
  refine Rets.enter Tryz.func90 z z ?_
  refine (show WC _ _ _ _ [(0, vu a0), (1, vu a1)] _ from ?_)
  refine sq (rg (wY (ya (v := vu 0) z) z (nl (th ?_))))
  refine sq (rg ?_)
  refine wY (ym z) z (WL.call (vals := [vu a0]) kok68 z z (c_num_of) ?_)
  rintro S T ⟨rfl, t⟩
  obtain ⟨M, G, H, j⟩ := adoptE (Lg.O0 (fun _ => False)) (fun k => 1) t
  refine wY (ym z) z (WL.call (vals := [vu a1]) kok68 z z (c_num_of) ?_)
  rintro U V ⟨rfl, C⟩
  obtain ⟨D, I, J, l⟩ := adoptE M (fun k => 1) C
  refine WL.fadd (O := D) z z z ?_
  intro P W m d
  refine WL.call (vals := [.float .f64 P]) kok123 z z (c_num_bits d.1) ?_
  rintro X E ⟨rfl, F⟩
  obtain ⟨Q, K, L, o⟩ := adoptE D (fun k => 1) F
  refine wY (ya z) z (nl (th (rt ?_)))
  rw [fAdd_res d]
  have hs : Stp [] (Lg.O0 (fun _ => False)) w Q E := (tr_ (su_ j z) (tr_ (su_ l z) (tr_ (su_ m z) (su_ o z))))
  exact At.res (.inl z) z (.tmp z .nil) ⟨z, se_ hs z z⟩
theorem c_num_parts {r s : Nat} {w : World} (hr : r < 18446744073709551616) (hs0 : s < 18446744073709551616) : Rets Tryz.prog 124 [.complex .f64 r s] w (fun v w' => v = .tuple (List.toArray [vu (fCan r), vu (fCan s)]) ∧ Ext w w') := by
  refine Rets.enter Tryz.func124 z z ?_
  refine (show WC _ _ _ _ [(0, .complex .f64 r s)] _ from ?_)
  refine sq (rg (wY (ya (v := vu 0) z) z (wY (ya (v := vu 0) z) z (nl (th ?_)))))
  refine sq (rg ?_)
  refine wY (ym z) z (wY (Y.creal z) z (WL.call (vals := [.float .f64 r]) kok123 z z (c_num_bits hr) ?_))
  rintro H I ⟨rfl, l⟩
  obtain ⟨F, t, C, d⟩ := adoptE (Lg.O0 (fun _ => False)) (fun k => 1) l
  refine wY (ym z) z (wY (Y.cimag z) z (WL.call (vals := [.float .f64 s]) kok123 z z (c_num_bits hs0) ?_))
  rintro J m ⟨rfl, o⟩
  obtain ⟨G, D, E, j⟩ := adoptE F (fun k => 1) o
  refine wY (ya z) z (wY (ya z) z (nl (th (rt ?_))))
  have hs : Stp [] (Lg.O0 (fun _ => False)) w G m := (tr_ (su_ d z) (su_ j z))
  exact At.res (.inl z) z (.tmp z (.tmp z .nil)) ⟨z, se_ hs z z⟩
theorem c_num_phasor {a0 a1 : UInt64} {w : World} : Rets Tryz.prog 125 [vu a0, vu a1] w (fun v w' => v = .complex .f64 a0.toNat a1.toNat ∧ Ext w w') := by
  refine Rets.enter Tryz.func125 z z ?_
  refine (show WC _ _ _ _ [(0, vu a0), (1, vu a1)] _ from ?_)
  refine sq (rg (wY (ya (v := .complex .f64 0 0) z) z (nl (th ?_))))
  refine sq (rg ?_)
  refine wY (ym z) z (WL.call (vals := [vu a0]) kok68 z z (c_num_of) ?_)
  rintro H I ⟨rfl, l⟩
  obtain ⟨F, t, C, d⟩ := adoptE (Lg.O0 (fun _ => False)) (fun k => 1) l
  refine wY (ym z) z (WL.call (vals := [vu a1]) kok68 z z (c_num_of) ?_)
  rintro J m ⟨rfl, o⟩
  obtain ⟨G, D, E, j⟩ := adoptE F (fun k => 1) o
  refine wY (Y.cplx z z) z ?_
  refine wY (ya z) z (nl (th (rt ?_)))
  have hs : Stp [] (Lg.O0 (fun _ => False)) w G m := (tr_ (su_ d z) (su_ j z))
  exact At.res (.inl z) z (.tmp z .nil) ⟨z, se_ hs z z⟩
theorem c_num_AddPhasor {a0 : UInt64} {a1 : UInt64} {a2 : UInt64} {a3 : UInt64} {w : World} {r0 : UInt64} {r1 : UInt64} (h : num_AddPhasor a0 a1 a2 a3 = some (r0, r1)) : Rets Tryz.prog 91 [vu a0, vu a1, vu a2, vu a3] w (fun v w' => v = tp [vu r0, vu r1] ∧ Ext w w') := by
  unfold num_AddPhasor at h
  obtain ⟨rfl, rfl⟩ := tup2 h
  refine Rets.enter Tryz.func91 z z ?_
  refine (show WC _ _ _ _ [(0, vu a0), (1, vu a1), (2, vu a2), (3, vu a3)] _ from ?_)
  refine sq (rg (wY (ya (v := vu 0) z) z (wY (ya (v := vu 0) z) z (nl (th ?_)))))
  refine sq (rg ?_)
  refine wY (ym z) z (wY (ym z) z (WL.call (vals := [vu a0, vu a1]) kok125 z z (c_num_phasor) ?_))
  rintro U V ⟨rfl, C⟩
  obtain ⟨P, H, I, l⟩ := adoptE (Lg.O0 (fun _ => False)) (fun k => 1) C
  refine wY (ym z) z (wY (ym z) z (WL.call (vals := [vu a2, vu a3]) kok125 z z (c_num_phasor) ?_))
  rintro W X ⟨rfl, D⟩
  obtain ⟨E, J, K, m⟩ := adoptE P (fun k => 1) D
  refine WL.cadd (O := E) z z z ?_
  intro Q S Z o d j
  refine WL.call (vals := [.complex .f64 Q S]) kok124 z z (c_num_parts d.1 j.1) ?_
  rintro aa F ⟨rfl, G⟩
  obtain ⟨T, L, M, t⟩ := adoptE E (fun k => 1) G
  refine wY (yx z z) z (wY (yx z z) z ?_)
  refine wY (ya z) z (wY (ya z) z (nl (th (rt ?_))))
  rw [fAdd_res d, fAdd_res j]
  have hs : Stp [] (Lg.O0 (fun _ => False)) w T F := (tr_ (su_ l z) (tr_ (su_ m z) (tr_ (su_ o z) (su_ t z))))
  exact At.res (.inl z) z (.tmp z (.tmp z .nil)) ⟨z, se_ hs z z⟩
theorem c_hist_span {A : Nat → Prop} {v0_1 : Value} {a0 : api_Side} {a1 : UInt64} {w : World} (hs0_1 : Sl Rep.u w A v0_1 a0.Counts) {r0 : Int} (h : hist_span a0 a1 = some r0) : Rets Tryz.prog 165 [ag [vi a0.Offset, v0_1], vu a1] w (fun v w' => v = vi r0 ∧ Ext w w') := by
 unfold hist_span at h
 refine Rets.enter Tryz.func165 z z ?_
 have m : Sl Rep.u w (imm (Lg.O0 A)) v0_1 a0.Counts := (Sl.start hs0_1)
 refine (show WC _ _ _ _ [(0, ag [vi a0.Offset, v0_1]), (1, vu a1)] _ from ?_)
 refine sq (rg ?_)
 have D := h
 obtain ⟨I, J, K, rfl⟩ := m.shape
 have h := D
 refine WL.box (O := (Lg.O0 A)) 11 [vi a0.Offset, (vl I J K)] z z z ?_
 intro M C o d j
 refine wY (ya z) z (nl (th (sq (rg (wY (yf fo36_1 z) z (wY (yl ty34 z z (j.cell 1 _ z)) z ?_))))))
 have E := m.i d z z
 refine wY (Y.len ty34 z E) z ?_
 obtain ⟨L, t, h⟩ := lt1 h
 refine WL.yE (ya z) (congrArg vi t.symm) z (nl (th (sq (sq (rg (wY (ym z) z (wY (Y.eql_i z z) z (nl (th ?_)))))))))
 rcases cnd h with ⟨l, h⟩ | ⟨l, h⟩
 ·refine WC.condT' z l (sq (rg (wY (ya z) z (nl (th (rt (At.thenR ?_)))))))
  obtain rfl := some1 h
  have F : Stp [] (Lg.O0 A) w C o := (su_ d z)
  exact At.res (.inl z) z (.tmp z .nil) ⟨z, (se_ F z z)⟩
 ·refine WC.condF' z l (sk (th (sq (rg (wY (yf fo36_0 z) z (wY (yl ty3 z z (j.cell 0 _ z)) z (wY (ym z) z (wY (Y.add_i z z) z (wY (Y.sub_i z z) z ?_)))))))))
  refine wY (ym z) z (wY (Y.shr_iu z z) z (wY (yf fo36_0 z) z (wY (yl ty3 z z (j.cell 0 _ z)) z (wY (ym z) z (wY (Y.shr_iu z z) z (wY (Y.sub_i z z) z (wY (Y.add_i z z) z ?_)))))))
  obtain ⟨P, G, h⟩ := lt1 h
  refine WL.yE (ya z) (congrArg vi G.symm) z (nl (th (rt ?_)))
  obtain rfl := some1 h
  have H : Stp [] (Lg.O0 A) w C o := (su_ d z)
  exact At.res (.inl z) z (.tmp z .nil) ⟨z, (se_ H z z)⟩
theorem c_hist_down {A : Nat → Prop} {v0_1 : Value} {a0 : api_Side} {a1 : UInt64} {w : World} (hs0_1 : Sl Rep.u w A v0_1 a0.Counts) {r0 : api_Side} (h : hist_down a0 a1 = some r0) : Rets Tryz.prog 149 [ag [vi a0.Offset, v0_1], vu a1] w (fun v w' => ∃ (aP : Value), v = ag [vi r0.Offset, aP] ∧ Ext w w' ∧ RowF Rep.u 33 w w' aP r0.Counts) := by
 unfold hist_down at h
 refine Rets.enter Tryz.func149 z z ?_
 have aQ : Sl Rep.u w (imm (Lg.O0 A)) v0_1 a0.Counts := (Sl.start hs0_1)
 refine (show WC _ _ _ _ [(0, ag [vi a0.Offset, v0_1]), (1, vu a1)] _ from ?_)
 refine sq (rg ?_)
 have cv := h
 obtain ⟨X, Z, aa, rfl⟩ := aQ.shape
 have h := cv
 refine WL.box (O := (Lg.O0 A)) 11 [vi a0.Offset, (vl X Z aa)] z z z ?_
 intro ab dc dH ac cw
 refine WL.alloc (O := dc) 12 [vi 0, sn] ty36 z z ?_
 intro F al dI G aR
 refine nl (th (sq (sq (rg (wY (yf fo36_1 z) z ?_)))))
 have ad := cw.st G z
 refine wY (yl ty34 z z (ad.cell 1 _ z)) z ?_
 have ae := (aQ.i ac z z).i G z z
 refine wY (Y.len ty34 z ae) z (wY (Y.eql_i z z) z (nl (th ?_)))
 rcases cnd h with ⟨ap, h⟩ | ⟨ap, h⟩
 ·refine WC.condT' z ap (sq (rg (wY (yb (vals := []) (cells := [vi 0, sn]) (fe_ z) (by kernel_rfl)) z (WL.store (v := ag [vi 0, sn]) (cells' := [vi 0, sn]) ty36 z z aR z (le_ z) z z ?_))))
  intro cy bi cz
  refine nl (th (rt (At.thenR ?_)))
  obtain rfl := some1 h
  have cA : Stp [12] (Lg.O0 A) w al cy := (tr_ (su_ ac z) (tr_ (su_ G z) (su_ bi z)))
  exact At.res (.inl z) z (.cell z (cz.runAg 0 [vi 0, sn] ty36 z z z) .nil) ⟨sn, z, (se_ cA z z), RowF.nil⟩
 ·refine WC.condF' z ap (sk (th (sq (WC.drawH [13, 14, 15, 16, 17, 18, 1001, 1002] [0, 1, 2, 3, 4, 5, 6, 7, 8, 9] al 11 fmix z (by kernel_rfl) ?_))))
  intro cC d
  refine WD.y 0 z (by kernel_rfl) (fun _ _ _ => yf fo36_0 z) z (WD.y 1 z (by kernel_rfl) (fun dJ d5 bj => have cD := ad.st d z; have cE := cD.st bj z; yl ty3 z z (cE.cell 0 _ z)) z (WD.y 2 z (by kernel_rfl) (fun _ _ _ => ym z) z (WD.y 3 z (by kernel_rfl) (fun _ _ _ => Y.shr_iu z z) z (WD.y 4 z (by kernel_rfl) (fun dK d6 bk => have cF := ad.st d z; have cG := cF.st bk z; yL ty36 z z (cG.cells 0 [vi a0.Offset, (vl X Z aa)] z) z) z (WD.y 5 z (by kernel_rfl) (fun _ _ _ => ym z) z ?_)))))
  obtain ⟨dd, h, cH⟩ := bnd h
  refine WD.join (σ := (List UInt64 × Own × Nat × Value)) (f' := 1) [9, 8, 7, 6, 5, 4, 3, 2, 1, 0] (fun x O' w' => x.1 = dd ∧ Stp [13, 14, 15, 16, 17, 18, 1001, 1002] al cC x.2.1 w' ∧ Blk 1003 x.2.1 w' x.2.2.1 36 [vi 0, sn] ∧ OwnSl 1004 Rep.u 33 x.2.1 w' x.2.2.2 x.1 ∧ x.2.1 = O') (fun x => [(1, vu a1), (2, pt ab 0), (4, pt F 0), (5, Value.pointer (some ⟨x.2.2.1, 0, none⟩)), (21, ag [vi (shrI a0.Offset a1.toNat), x.2.2.2])]) (fun aS => ?_) ?_
  ·refine WD.heavy2 6 9 z z (by kernel_rfl) ?_ ?_
   ·have cI := ae.i d z z
    obtain ⟨d7, cJ, h⟩ := bnd h
    refine WL.call (vals := [ag [vi a0.Offset, (vl X Z aa)], vu a1]) kok165 z z (c_hist_span (A := fun _ => True) (a0 := a0) (Sl.all cI) cJ) ?_
    rintro dL cK ⟨rfl, cL⟩
    obtain ⟨aT, de, df, aA⟩ := adoptE al (fun k => 1) cL
    refine nl (At.dq (su_ aA z) ?_)
    obtain ⟨dg, h, cM⟩ := bnd h
    refine WD.join (σ := (List UInt64 × Own × Nat × Value)) (f' := 1) [9, 8, 7, 6, 5, 4, 3, 2, 1, 0] (fun x O' w' => x.1 = dg ∧ Stp [13, 14, 15, 16] aT cK x.2.1 w' ∧ Blk 1001 x.2.1 w' x.2.2.1 36 [vi 0, sn] ∧ OwnSl 1002 Rep.u 33 x.2.1 w' x.2.2.2 x.1 ∧ x.2.1 = O') (fun x => [(1, vu a1), (2, pt ab 0), (4, pt F 0), (5, Value.pointer (some ⟨x.2.2.1, 0, none⟩)), (21, ag [vi (shrI a0.Offset a1.toNat), x.2.2.2])]) (fun aU => ?_) ?_
    ·refine WD.heavy2 7 9 z z (by kernel_rfl) ?_ ?_
     ·obtain ⟨dh, cN, h⟩ := bnd h
      refine WL.make (O := aT) (R := Rep.u) (zx := (0 : UInt64)) 13 (by decide) ty34 ty33 z (by decide) (by decide) z z (fun _ _ => z) cN z ?_
      intro d8 di dM aC aW
      refine nl (At.dq (su_ aC z) ?_)
      have cO := h
      obtain ⟨aX, aY, aZ, rfl⟩ := aW.shape
      have h := cO
      refine WD.y 8 z (by kernel_rfl) (fun _ _ _ => yb (vals := [(0, vi (shrI a0.Offset a1.toNat)), (1, (vl aX aY aZ))]) (cells := [vi (shrI a0.Offset a1.toNat), (vl aX aY aZ)]) (fe_ z) (by kernel_rfl)) z (WD.heavy 9 z (by kernel_rfl) (WL.alloc (O := di) 14 [vi 0, sn] ty36 z z ?_))
      intro cP dN dt H bl
      refine nl (At.dq (su_ H z) ?_)
      obtain ⟨dO, I, bm⟩ := Blk.rlb 1001 rfl bl
      have bo := (aW.st H z z z).st I z z z
      obtain ⟨cQ, J, bp⟩ := OwnSl.rlb 1002 rfl bo
      have bq := bm.st J z
      refine WD.own (tr_ (su_ I z) (su_ J z)) (WD.perm _ [9, 8, 7, 6, 5, 4, 3, 2, 1, 0] (by kernel_rfl) ?_)
      exact aU (dh, cQ, cP, (vl aX aY aZ)) _ _ _ ⟨some1 h, (tr_ (su_ aC z) (tr_ (su_ H z) (tr_ (su_ I z) (su_ J z)))), bq, bp, z⟩ (.cons z (.cons z (.cons z (.cons z (.cons z .nil)))))
     ·try simp only [Option.bind_assoc] at h
      try simp only [Option.bind_some] at h
      refine WL.alloc (O := aT) 15 [vi 0, sn] ty36 z z ?_
      intro cR cS du am br
      refine nl (At.dq (su_ am z) (WD.heavy 7 z (by kernel_rfl) ?_))
      obtain ⟨cT, bs, h⟩ := bnd h
      refine WL.make (O := cS) (R := Rep.u) (zx := (0 : UInt64)) 16 (by decide) ty34 ty33 z (by decide) (by decide) z z (fun _ _ => z) bs z ?_
      intro dP dQ dw K aD
      refine nl (At.dq (su_ K z) ?_)
      have bt := h
      obtain ⟨aq, ar, au, rfl⟩ := aD.shape
      have h := bt
      refine WD.y 8 z (by kernel_rfl) (fun _ _ _ => yb (vals := [(0, vi (shrI a0.Offset a1.toNat)), (1, (vl aq ar au))]) (cells := [vi (shrI a0.Offset a1.toNat), (vl aq ar au)]) (fe_ z) (by kernel_rfl)) z ?_
      have bu := br.st K z
      obtain ⟨dR, L, bw⟩ := Blk.rlb 1001 rfl bu
      have bx := aD.st L z z z
      obtain ⟨cU, M, bz⟩ := OwnSl.rlb 1002 rfl bx
      have bA := bw.st M z
      refine WD.own (tr_ (su_ L z) (su_ M z)) (WD.perm _ [9, 8, 7, 6, 5, 4, 3, 2, 1, 0] (by kernel_rfl) ?_)
      exact aU (cT, cU, cR, (vl aq ar au)) _ _ _ ⟨some1 h, (tr_ (su_ am z) (tr_ (su_ K z) (tr_ (su_ L z) (su_ M z)))), bA, bz, z⟩ (.cons z (.cons z (.cons z (.cons z (.cons z .nil)))))
    ·rintro ⟨dj, d9, cs, ct⟩ _ dS ⟨rfl, aE, a2, a3, rfl⟩
     replace h := cM
     try dsimp only at h aE a2 a3
     refine (show WD _ _ _ _ _ _ _ _ [(1, vu a1), (2, pt ab 0), (4, pt F 0), (5, pt cs 0), (21, ag [vi (shrI a0.Offset a1.toNat), ct])] _ _ from ?_)
     obtain ⟨dT, P, bB⟩ := Blk.rlb 1003 rfl a2
     have bC := a3.st P z z z
     obtain ⟨cV, Q, bD⟩ := OwnSl.rlb 1004 rfl bC
     have bE := bB.st Q z
     refine WD.own (tr_ (su_ P z) (su_ Q z)) (WD.perm _ [9, 8, 7, 6, 5, 4, 3, 2, 1, 0] (by kernel_rfl) ?_)
     exact aS (dj, cV, cs, ct) _ _ _ ⟨some1 h, (tr_ (su_ aA z) (tr_ (su_ aE z) (tr_ (su_ P z) (su_ Q z)))), bE, bD, z⟩ (.cons z (.cons z (.cons z (.cons z (.cons z .nil)))))
   ·try simp only [Option.bind_assoc] at h
    try simp only [Option.bind_some] at h
    refine WL.alloc (O := al) 17 [vi 0, sn] ty36 z z ?_
    intro cW cX dx S bF
    refine nl (At.dq (su_ S z) (WD.heavy 6 z (by kernel_rfl) ?_))
    have bH := (ae.i d z z).i S z z
    obtain ⟨dU, bI, h⟩ := bnd h
    refine WL.call (vals := [ag [vi a0.Offset, (vl X Z aa)], vu a1]) kok165 z z (c_hist_span (A := fun _ => True) (a0 := a0) (Sl.all bH) bI) ?_
    rintro dy dz ⟨rfl, bJ⟩
    obtain ⟨cY, da, db, T⟩ := adoptE cX (fun k => 1) bJ
    refine nl (At.dq (su_ T z) (WD.heavy 7 z (by kernel_rfl) ?_))
    obtain ⟨cZ, bK, h⟩ := bnd h
    refine WL.make (O := cY) (R := Rep.u) (zx := (0 : UInt64)) 18 (by decide) ty34 ty33 z (by decide) (by decide) z z (fun _ _ => z) bK z ?_
    intro dV dW dA U aF
    refine nl (At.dq (su_ U z) ?_)
    have bL := h
    obtain ⟨av, ax, ay, rfl⟩ := aF.shape
    have h := bL
    refine WD.y 8 z (by kernel_rfl) (fun _ _ _ => yb (vals := [(0, vi (shrI a0.Offset a1.toNat)), (1, (vl av ax ay))]) (cells := [vi (shrI a0.Offset a1.toNat), (vl av ax ay)]) (fe_ z) (by kernel_rfl)) z ?_
    have bO := (bF.st T z).st U z
    obtain ⟨dX, V, bP⟩ := Blk.rlb 1003 rfl bO
    have bQ := aF.st V z z z
    obtain ⟨c0, W, bR⟩ := OwnSl.rlb 1004 rfl bQ
    have bS := bP.st W z
    refine WD.own (tr_ (su_ V z) (su_ W z)) (WD.perm _ [9, 8, 7, 6, 5, 4, 3, 2, 1, 0] (by kernel_rfl) ?_)
    exact aS (cZ, c0, cW, (vl av ax ay)) _ _ _ ⟨some1 h, (tr_ (su_ S z) (tr_ (su_ T z) (tr_ (su_ U z) (tr_ (su_ V z) (su_ W z))))), bS, bR, z⟩ (.cons z (.cons z (.cons z (.cons z (.cons z .nil)))))
  ·rintro ⟨dk, cu, an, dl⟩ _ dY ⟨rfl, D, a4, az, rfl⟩
   replace h := cH
   try dsimp only at h D a4 az
   refine (show WD _ _ _ _ _ _ _ _ [(1, vu a1), (2, pt ab 0), (4, pt F 0), (5, pt an 0), (21, ag [vi (shrI a0.Offset a1.toNat), dl])] _ _ from ?_)
   refine WD.phase [1003] [0, 1, 2, 3, 4, 5, 6, 7, 8, 9, 10] (by kernel_rfl) (by kernel_rfl) (WD.heavy 10 z (by kernel_rfl) ?_)
   have bT := h
   obtain ⟨m, o, t, rfl⟩ := az.shape
   have h := bT
   refine WL.store (v := ag [vi (shrI a0.Offset a1.toNat), (vl m o t)]) (cells' := [vi (shrI a0.Offset a1.toNat), (vl m o t)]) ty36 z z a4 z (le_ z) z z ?_
   intro aG j aH
   refine nl (At.dq (su_ j z) (WD.done_ (by kernel_rfl) (th (sq (sq (rg (wY (yf fo36_1 z) z ?_)))))))
   have aI := ((ad.st d z).st D z).st j z
   refine wY (yl ty34 z z (aI.cell 1 _ z)) z ?_
   have aJ := ((ae.i d z z).i D z z).i j z z
   refine wY (Y.len ty34 z aJ) z (wY (ym z) z (nl (th (WC.block ?_))))
   obtain ⟨a5, h, bZ⟩ := flow1 h
   obtain ⟨a6, h⟩ := loop_some h
   refine WC.joinB 0 (σ := (List UInt64 × Own)) (fun x w' => a5 = .go x.1 ∧ Stp [1004, 1005] cu aG x.2 w' ∧ OwnSl 1006 Rep.u 33 x.2 w' (vl m o t) x.1) (fun x => [(4, pt F 0), (5, pt an 0)]) ?_ ?_
   ·have b0 := az.st j z z z
    obtain ⟨c1, a7, b1⟩ := OwnSl.rlb 1005 rfl b0
    refine WC.loop (σ := (List UInt64 × Int × Own)) (fun x k w' => loopN k (hist_down_lp1 a0 a1) (x.1, x.2.1) = some a5 ∧ Stp [1004, 1005] cu aG x.2.2 w' ∧ OwnSl 1005 Rep.u 33 x.2.2 w' (vl m o t) x.1) (fun x => [(1, vu a1), (2, pt ab 0), (4, pt F 0), (5, pt an 0), (23, (vl X Z aa)), (24, vi (a0.Counts.length : Int)), (25, vi x.2.1)]) (dk, 0, c1) a6 (.cons z (.cons z (.cons z (.cons z (.cons z (.cons z (.cons z .nil))))))) ⟨h, (su_ a7 z), b1⟩ ?_
    rintro ⟨c2, a8, c3⟩ a6 dB ⟨h, l, C⟩
    obtain ⟨c4, dZ, rfl, h, aK⟩ := rnd1 h
    unfold hist_down_lp1 at h
    try dsimp only at h l C
    refine (show WC _ _ _ _ [(1, vu a1), (2, pt ab 0), (4, pt F 0), (5, pt an 0), (23, (vl X Z aa)), (24, vi (a0.Counts.length : Int)), (25, vi a8)] _ from ?_)
    refine sq (rg (wY (Y.lss_i z z) z (nl (th (sq ?_)))))
    rcases cnd h with ⟨af, h⟩ | ⟨af, h⟩
    ·refine WC.condT' z af (sk (th (sq (WC.block (sq (rg (wY (ym z) z ?_)))))))
     obtain ⟨c5, b2, h⟩ := bnd h
     have b3 := aJ.i l z z
     obtain ⟨d0, dm, dn, dC, b4, b5, b6, ah, a9, b7⟩ := Sl.at2 b3 b2
     obtain rfl := a9
     replace ah : CellsAt _ _ _ [vu c5] := ah
     have ba := CAt.imm ah b7
     refine wY (Y.indexAddr ty34 ty33 z b4 z b5 b6) z (wY (yl ty33 z z ba.at_) z (wY (ya z) z (wY (ya z) z (nl (th (rg (wY (yf fo36_1 z) z ?_)))))))
     have aL := aH.st l z
     refine wY (yl ty34 z z (aL.cell 1 _ z)) z (wY (yf fo36_0 z) z ?_)
     have b8 := aI.st l z
     refine wY (yl ty3 z z (b8.cell 0 _ z)) z (wY (ym z) z (wY (Y.add_i z z) z (wY (ym z) z (wY (Y.shr_iu z z) z (wY (yf fo36_0 z) z (wY (yl ty3 z z (aL.cell 0 _ z)) z (wY (Y.sub_i z z) z ?_)))))))
     obtain ⟨c6, b9, h⟩ := bnd h
     obtain ⟨d1, dp, dD, aM, ca, cb, ai, bb⟩ := OwnSl.at C b9
     obtain rfl := bb
     replace ai : CellsAt _ _ _ [vu c6] := ai
     have bc := CAt.own C aM ai
     refine wY (Y.indexAddr ty34 ty33 z aM z ca cb) z (wY (yl ty33 z z bc.at_) z (wY (ym z) z (wY (Y.add_u z z) z ?_)))
     obtain ⟨c7, cc, h⟩ := bnd h
     obtain ⟨d2, dr, dE, aj, cd, ce, ak, bd⟩ := OwnSl.at C cc
     obtain rfl := bd
     replace ak : CellsAt _ _ _ [vu c7] := ak
     have ds := CAt.own C aj ak
     refine wY (Y.indexAddr ty34 ty33 z aj z cd ce) z ?_
     obtain ⟨d3, cf, h⟩ := lt1 h
     refine WL.ren 44 z (congrArg vu cf.symm) ?_
     obtain ⟨cg, bf, h⟩ := bnd h
     refine WL.storeOwn (by decide) ty33 z z z C aj bf ?_
     intro dF bg ch
     refine nl (At.inBlock (th (rg (wY (Y.add_i z z) z (wY (ym z) z (nl ?_))))))
     exact At.round (cg, w64 (a8 + 1), c3) c4 (Nat.lt_succ_self _) ⟨next1 h aK, (tr_ (su_ l z) (su_ bg z)), ch⟩ (.cons z (.cons z (.cons z (.cons z (.cons z (.cons z (.cons z .nil)))))))
    ·refine WC.condF' z af (WC.exit (At.thenX (At.loopX ?_)))
     obtain ⟨c8, bh, ci⟩ := OwnSl.rlb 1006 rfl C
     exact At.hitB (σ := (List UInt64 × Own)) (c2, c8) ⟨brk1 h aK, (tr_ (su_ l z) (su_ bh z)), ci⟩ (.cons z (.cons z .nil))
   ·rintro ⟨d4, c9⟩ dG ⟨rfl, E, aN⟩
    replace h := flowK_go bZ
    try dsimp only at h E aN
    refine (show At _ _ _ [(4, pt F 0), (5, pt an 0)] _ from ?_)
    refine At.inBlockHit (th (sq (rg ?_)))
    have cj := aH.st E z
    refine wY (yL ty36 z z (cj.cells 0 [vi (shrI a0.Offset a1.toNat), (vl m o t)] z) z) z ?_
    have cn := (((aR.st d z).st D z).st j z).st E z
    refine WL.store (v := ag [vi (shrI a0.Offset a1.toNat), (vl m o t)]) (cells' := [vi (shrI a0.Offset a1.toNat), (vl m o t)]) ty36 z z cn z (le_ z) z z ?_
    intro co ao cq
    refine nl (th (rt ?_))
    obtain rfl := some1 h
    have aO : Stp [12, 13, 14, 15, 16, 17, 18, 1001, 1002, 1003, 1004, 1005] (Lg.O0 A) w c9 co := (tr_ (su_ ac z) (tr_ (su_ G z) (tr_ (su_ d z) (tr_ (su_ D z) (tr_ (su_ j z) (tr_ (su_ E z) (su_ ao z)))))))
    have cr := aN.st ao z z z
    exact At.res (.inl z) z (.cell z (cq.runAg 0 [vi (shrI a0.Offset a1.toNat), (vl m o t)] ty36 z z z) .nil) ⟨(vl m o t), z, (se_ aO z z), (OwnSl.outF cr aO low0 z)⟩
theorem c_hist_Down {A : Nat → Prop} {v0_3 : Value} {v0_5 : Value} {a0 : api_Hist} {a1 : Int} {w : World} (hs0_3 : Sl Rep.u w A v0_3 a0.Pos.Counts) (hs0_5 : Sl Rep.u w A v0_5 a0.Neg.Counts) {r0 : api_Hist} {r1 : Int} (h : hist_Down a0 a1 = some (r0, r1)) : Rets Tryz.prog 128 [ag (hl a0 v0_3 v0_5), vi a1] w (fun v w' => ∃ (W : Value) (X : Value), v = Value.tuple (List.toArray [ag (hl r0 W X), vi r1]) ∧ Ext w w' ∧ RowF Rep.u 33 w w' W r0.Pos.Counts ∧ RowF Rep.u 33 w w' X r0.Neg.Counts ∧ (∀ k, ob W = some k → ob X ≠ some k)) := by
 unfold hist_Down at h
 refine Rets.enter Tryz.func128 z z ?_
 have al : Sl Rep.u w (imm (Lg.O0 A)) v0_3 a0.Pos.Counts := (Sl.start hs0_3)
 have am : Sl Rep.u w (imm (Lg.O0 A)) v0_5 a0.Neg.Counts := (Sl.start hs0_5)
 refine (show WC _ _ _ _ [(0, ag (hl a0 v0_3 v0_5)), (1, vi a1)] _ from ?_)
 refine sq (rg ?_)
 have a5 := h
 obtain ⟨P, Q, S, rfl⟩ := al.shape
 have h := a5
 have a6 := h
 obtain ⟨T, U, V, rfl⟩ := am.shape
 have h := a6
 refine WL.box (O := (Lg.O0 A)) 11 (hl a0 (vl P Q S) (vl T U V)) z z z ?_
 intro a3 bC bJ m a7
 refine WL.alloc (O := bC) 12 hzr ty38 z z ?_
 intro a4 bD bK l Z
 refine wY (ya z) z (nl (th (sq (sq (rg ?_)))))
 have D := a7.st l z
 refine wY (yL ty38 z z (D.cells 0 (hl a0 (vl P Q S) (vl T U V)) z) z) z ?_
 have an := (al.i m z z).i l z z
 have ao := (am.i m z z).i l z z
 obtain ⟨bS, ba, h⟩ := bnd h
 refine WL.call (vals := [ag (hl a0 (vl P Q S) (vl T U V))]) kok39 z z (c_hist_Check (A := fun _ => True) (a0 := a0) (Sl.all an) (Sl.all ao) ba) ?_
 rintro bL bb ⟨rfl, bc⟩
 obtain ⟨ad, bE, bF, d⟩ := adoptE bD (fun k => 1) bc
 refine wY (ya z) z (nl (th (sq (rg (wY (ym z) z (wY (Y.neq_i z z) z (nl (th ?_))))))))
 rcases cnd h with ⟨aa, h⟩ | ⟨aa, h⟩
 ·refine WC.condT' z aa (sq (rg (wY (yb (vals := []) (cells := hzr) (fe_ z) (by kernel_rfl)) z (wY (ym z) z ?_))))
  have bd := Z.st d z
  refine WL.store (v := ag hzr) (cells' := hzr) ty38 z z bd z (le_ z) z z ?_
  intro bf ax bg
  refine wY (ya z) z (nl (th (rt (At.thenR ?_))))
  obtain ⟨rfl, rfl⟩ := tup2 h
  have bh : Stp [12] (Lg.O0 A) w ad bf := (tr_ (su_ m z) (tr_ (su_ l z) (tr_ (su_ d z) (su_ ax z))))
  exact At.res (.inl z) z (.cell z (bg.runAg 0 hzr ty38 z z z) (.tmp z .nil)) ⟨sn, sn, z, (se_ bh z z), RowF.nil, RowF.nil, (fun _ e => absurd e not_nil)⟩
 ·refine WC.condF' z aa (sk (th (sq (sq (rg (wY (ym z) z (wY (Y.lss_i z z) z (wY (ym z) z ?_))))))))
  refine WL.cut 6 (σ := Unit) (fun _ w' => bb = w') (fun _ => [(1, vi a1), (2, pt a3 0), (4, pt a4 0), (21, vB ((decide (a1 < 0)) || (decide (w64 (a0.Scale - (-10)) < a1))))]) ?_ ?_
  ·refine WL.part 15 z (fun ab => ?_) (fun ab => ?_)
   ·refine WL.gS z z z z (WL.gS z z z z (WL.gS z z z z (WL.gS z z z z (WL.gS z z z z (wY (Y.pick (b := true) z z) z (WL.ren (v' := vB ((decide (a1 < 0)) || (decide (w64 (a0.Scale - (-10)) < a1)))) 21 z (congrArg vB (orT ab)) ?_))))))
    exact nl (At.join () z (.cons z (.cons z (.cons z (.cons z .nil)))))
   ·refine ug z z (wY (ym z) z (ug z z (wY (yf fo38_0 z) z (ug z z ?_))))
    have bi := D.st d z
    refine wY (yl ty3 z z (bi.cell 0 _ z)) z (ug z z (wY (Y.sub_i z z) z (ug z z (wY (Y.gtr_i z z) z (wY (Y.pick (b := false) z z) z (WL.ren (v' := vB ((decide (a1 < 0)) || (decide (w64 (a0.Scale - (-10)) < a1)))) 21 z (congrArg vB (orF ab)) ?_))))))
    exact nl (At.join () z (.cons z (.cons z (.cons z (.cons z .nil)))))
  ·rintro _ _ rfl
   refine (show WL _ _ _ _ _ [(1, vi a1), (2, pt a3 0), (4, pt a4 0), (21, vB ((decide (a1 < 0)) || (decide (w64 (a0.Scale - (-10)) < a1))))] _ from ?_)
   refine nl (th ?_)
   rcases cnd h with ⟨ac, h⟩ | ⟨ac, h⟩
   ·refine WC.condT' z ac (sq (rg (wY (yb (vals := []) (cells := hzr) (fe_ z) (by kernel_rfl)) z ?_)))
    have bj := Z.st d z
    refine WL.store (v := ag hzr) (cells' := hzr) ty38 z z bj z (le_ z) z z ?_
    intro bk ay bl
    refine wY (ya z) z (nl (th (rt (At.thenR ?_))))
    obtain ⟨rfl, rfl⟩ := tup2 h
    have bm : Stp [12] (Lg.O0 A) w ad bk := (tr_ (su_ m z) (tr_ (su_ l z) (tr_ (su_ d z) (su_ ay z))))
    exact At.res (.inl z) z (.cell z (bl.runAg 0 hzr ty38 z z z) (.tmp z .nil)) ⟨sn, sn, z, (se_ bm z z), RowF.nil, RowF.nil, (fun _ e => absurd e not_nil)⟩
   ·refine WC.condF' z ac (sk (th (sq (WC.drawH [] [0, 1, 2, 3, 4, 5, 6, 7, 8, 9, 10, 11, 12, 13, 14, 15, 16] ad 19 fmix z (by kernel_rfl) ?_))))
    intro bM j
    refine WD.y 0 z (by kernel_rfl) (fun _ _ _ => yf fo38_0 z) z (WD.y 1 z (by kernel_rfl) (fun bO bT az => have bn := D.st d z; have bo := bn.st j z; have bp := bo.st az z; yl ty3 z z (bp.cell 0 _ z)) z (WD.y 2 z (by kernel_rfl) (fun _ _ _ => ym z) z (WD.y 3 z (by kernel_rfl) (fun _ _ _ => Y.sub_i z z) z (WD.y 4 z (by kernel_rfl) (fun _ _ _ => yf fo38_1 z) z (WD.y 5 z (by kernel_rfl) (fun bP bU aA => have bq := D.st d z; have br := bq.st j z; have bs := br.st aA z; yl ty33 z z (bs.cell 1 _ z)) z (WD.y 6 z (by kernel_rfl) (fun _ _ _ => yf fo38_2 z) z (WD.y 7 z (by kernel_rfl) (fun bQ bW aC => have bt := D.st d z; have bu := bt.st j z; have bw := bu.st aC z; yL ty36 z z (bw.cells 2 [vi a0.Pos.Offset, (vl P Q S)] z) z) z (WD.y 8 z (by kernel_rfl) (fun _ _ _ => ym z) z (WD.y 9 z (by kernel_rfl) (fun _ _ _ => Y.conv_iu ty3.u ty142.u z) z ?_)))))))))
    refine WD.y 11 z (by kernel_rfl) (fun _ _ _ => yf fo38_3 z) z (WD.y 12 z (by kernel_rfl) (fun bG bR ap => have aD := D.st d z; have aE := aD.st j z; have aF := aE.st ap z; yL ty36 z z (aF.cells 4 [vi a0.Neg.Offset, (vl T U V)] z) z) z (WD.y 13 z (by kernel_rfl) (fun _ _ _ => ym z) z (WD.y 14 z (by kernel_rfl) (fun _ _ _ => Y.conv_iu ty3.u ty142.u z) z (WD.heavy 10 z (by kernel_rfl) ?_))))
    have aH := (an.i d z z).i j z z
    obtain ⟨E, aI, h⟩ := bnd h
    refine WL.call (vals := [ag [vi a0.Pos.Offset, (vl P Q S)], vu (toU64 a1)]) kok149 z z (c_hist_down (A := fun _ => True) (a0 := a0.Pos) (Sl.all aH) aI) ?_
    rintro bH aJ ⟨aq, rfl, aK, bx⟩
    obtain ⟨ar, bA, aj, o⟩ := adoptE ad (fun k => if ob aq = some k then 13 else 1) aK
    have aL : OwnSl 13 Rep.u 33 ar aJ aq E.Counts := RowF.adopt 13 Flat.u bx aj (fun k hk => if_pos hk)
    refine nl (At.dq (su_ o z) (WD.heavy 15 z (by kernel_rfl) ?_))
    have aO := ((ao.i d z z).i j z z).i o z z
    obtain ⟨F, aP, h⟩ := bnd h
    refine WL.call (vals := [ag [vi a0.Neg.Offset, (vl T U V)], vu (toU64 a1)]) kok149 z z (c_hist_down (A := fun _ => True) (a0 := a0.Neg) (Sl.all aO) aP) ?_
    rintro bI aQ ⟨au, rfl, aR, bz⟩
    obtain ⟨av, bB, ak, t⟩ := adoptE ar (fun k => if ob au = some k then 14 else 1) aR
    have ae : OwnSl 14 Rep.u 33 av aQ au F.Counts := RowF.adopt 14 Flat.u bz ak (fun k hk => if_pos hk)
    refine nl (At.dq (su_ t z) ?_)
    have af := aL.st t z z z
    have aS := h
    obtain ⟨G, H, I, rfl⟩ := af.shape
    have h := aS
    have aT := h
    obtain ⟨J, K, L, rfl⟩ := ae.shape
    have h := aT
    refine WD.y 16 z (by kernel_rfl) (fun _ _ _ => yb (vals := [(0, vi (w64 (a0.Scale - a1))), (1, vu a0.Zero), (2, ag [vi E.Offset, (vl G H I)]), (3, ag [vi F.Offset, (vl J K L)])]) (cells := [vi (w64 (a0.Scale - a1)), vu a0.Zero, vi E.Offset, (vl G H I), vi F.Offset, (vl J K L)]) (fe_ z) (by kernel_rfl)) z (WD.phase [12] [0, 1, 2, 3, 4, 5, 6, 7, 8, 9, 10, 11, 12, 13, 14, 15, 16, 17, 18] (by kernel_rfl) (by kernel_rfl) (WD.heavy 17 z (by kernel_rfl) ?_))
    have aY := (((Z.st d z).st j z).st o z).st t z
    refine WL.store (v := ag [vi (w64 (a0.Scale - a1)), vu a0.Zero, vi E.Offset, (vl G H I), vi F.Offset, (vl J K L)]) (cells' := [vi (w64 (a0.Scale - a1)), vu a0.Zero, vi E.Offset, (vl G H I), vi F.Offset, (vl J K L)]) ty38 z z aY z (le_ z) z z ?_
    intro aZ C a2
    refine nl (At.dq (su_ C z) (WD.y 18 z (by kernel_rfl) (fun _ _ _ => ya z) z (WD.done_ (by kernel_rfl) (th (rt ?_)))))
    obtain ⟨rfl, rfl⟩ := tup2 h
    have M : Stp [12] (Lg.O0 A) w av aZ := (tr_ (su_ m z) (tr_ (su_ l z) (tr_ (su_ d z) (tr_ (su_ j z) (tr_ (su_ o z) (tr_ (su_ t z) (su_ C z)))))))
    have ah := af.st C z z z
    have ai := ae.st C z z z
    exact At.res (.inl z) z (.cell z (a2.runAg 0 [vi (w64 (a0.Scale - a1)), vu a0.Zero, vi E.Offset, (vl G H I), vi F.Offset, (vl J K L)] ty38 z z z) (.tmp z .nil)) ⟨(vl G H I), (vl J K L), z, (se_ M z z), (OwnSl.outF ah M low0 z), (OwnSl.outF ai M low0 z), (ne_own ah ai z)⟩
theorem c_fold_Level {A : Nat → Prop} {v0_3 : Value} {v0_5 : Value} {a0 : api_Hist} {v1_3 : Value} {v1_5 : Value} {a1 : api_Hist} {w : World} (hs0_3 : Sl Rep.u w A v0_3 a0.Pos.Counts) (hs0_5 : Sl Rep.u w A v0_5 a0.Neg.Counts) (hs1_3 : Sl Rep.u w A v1_3 a1.Pos.Counts) (hs1_5 : Sl Rep.u w A v1_5 a1.Neg.Counts) {r0 : api_Hist} {r1 : api_Hist} {r2 : Int} (h : fold_Level a0 a1 = some (r0, r1, r2)) : Rets Tryz.prog 126 [ag (hl a0 v0_3 v0_5), ag (hl a1 v1_3 v1_5)] w (fun v w' => ∃ (az : Value) (aA : Value) (aC : Value) (aD : Value), v = Value.tuple (List.toArray [ag (hl r0 az aA), ag (hl r1 aC aD), vi r2]) ∧ Ext w w' ∧ RowF Rep.u 33 w w' az r0.Pos.Counts ∧ RowF Rep.u 33 w w' aA r0.Neg.Counts ∧ RowF Rep.u 33 w w' aC r1.Pos.Counts ∧ RowF Rep.u 33 w w' aD r1.Neg.Counts ∧ (∀ k, ob az = some k → ob aA ≠ some k) ∧ (∀ k, ob az = some k → ob aC ≠ some k) ∧ (∀ k, ob aA = some k → ob aC ≠ some k) ∧ (∀ k, ob az = some k → ob aD ≠ some k) ∧ (∀ k, ob aA = some k → ob aD ≠ some k) ∧ (∀ k, ob aC = some k → ob aD ≠ some k)) := by
 unfold fold_Level at h
 refine Rets.enter Tryz.func126 z z ?_
 have a2 : Sl Rep.u w (imm (Lg.O0 A)) v0_3 a0.Pos.Counts := (Sl.start hs0_3)
 have a3 : Sl Rep.u w (imm (Lg.O0 A)) v0_5 a0.Neg.Counts := (Sl.start hs0_5)
 have df : Sl Rep.u w (imm (Lg.O0 A)) v1_3 a1.Pos.Counts := (Sl.start hs1_3)
 have dg : Sl Rep.u w (imm (Lg.O0 A)) v1_5 a1.Neg.Counts := (Sl.start hs1_5)
 refine (show WC _ _ _ _ [(0, ag (hl a0 v0_3 v0_5)), (1, ag (hl a1 v1_3 v1_5))] _ from ?_)
 refine sq (rg ?_)
 have dh := h
 obtain ⟨L, M, P, rfl⟩ := a2.shape
 have h := dh
 have di := h
 obtain ⟨Q, S, T, rfl⟩ := a3.shape
 have h := di
 refine WL.box (O := (Lg.O0 A)) 11 (hl a0 (vl L M P) (vl Q S T)) z z z ?_
 intro aF dY ei U dj
 have a4 := df.i U z z
 have dk := h
 obtain ⟨C, D, E, rfl⟩ := a4.shape
 have h := dk
 have a5 := dg.i U z z
 have dl := h
 obtain ⟨F, G, H, rfl⟩ := a5.shape
 have h := dl
 refine WL.box (O := dY) 12 (hl a1 (vl C D E) (vl F G H)) z z z ?_
 intro aG dZ ej l dm
 refine WL.alloc (O := dZ) 13 hzr ty38 z z ?_
 intro aH d0 ek j bq
 refine WL.alloc (O := d0) 14 hzr ty38 z z ?_
 intro aI bc a6 d br
 refine wY (ya z) z (nl (th (sq (sq (rg ?_)))))
 have bs := ((dj.st l z).st j z).st d z
 refine wY (yL ty38 z z (bs.cells 0 (hl a0 (vl L M P) (vl Q S T)) z) z) z ?_
 have bt := (dm.st j z).st d z
 refine wY (yL ty38 z z (bt.cells 0 (hl a1 (vl C D E) (vl F G H)) z) z) z (wY (yb (vals := [(0, ag (hl a0 (vl L M P) (vl Q S T))), (1, ag (hl a1 (vl C D E) (vl F G H)))]) (cells := [vi a0.Scale, vu a0.Zero, vi a0.Pos.Offset, (vl L M P), vi a0.Neg.Offset, (vl Q S T), vi a1.Scale, vu a1.Zero, vi a1.Pos.Offset, (vl C D E), vi a1.Neg.Offset, (vl F G H)]) (fe_ z) (by kernel_rfl)) z (wY (ym z) z (nl (th ?_))))
 obtain ⟨d1, h, bu⟩ := flow1 h
 refine WC.join (σ := Own) (fun x w' => d1 = .go () ∧ Stp [15] bc a6 x w') (fun x => [(2, pt aF 0), (3, pt aG 0), (4, pt aH 0), (5, pt aI 0)]) ?_ ?_
 ·refine WC.block ?_
  obtain ⟨dc, h, bw⟩ := flow1 h
  obtain ⟨dd, h⟩ := loop_some h
  refine WC.joinB 0 (σ := Own) (fun x w' => dc = .go () ∧ Stp [15] bc a6 x w') (fun x => [(2, pt aF 0), (3, pt aG 0), (4, pt aH 0), (5, pt aI 0)]) ?_ ?_
  ·refine WC.loop (σ := (Int × Own)) (fun x k w' => loopN k (fold_Level_lp1 a0 a1) x.1 = some dc ∧ Stp [15] bc a6 x.2 w') (fun x => [(2, pt aF 0), (3, pt aG 0), (4, pt aH 0), (5, pt aI 0), (13, ag [vi a0.Scale, vu a0.Zero, vi a0.Pos.Offset, (vl L M P), vi a0.Neg.Offset, (vl Q S T), vi a1.Scale, vu a1.Zero, vi a1.Pos.Offset, (vl C D E), vi a1.Neg.Offset, (vl F G H)]), (14, vi x.1)]) (0, bc) dd (.cons z (.cons z (.cons z (.cons z (.cons z (.cons z .nil)))))) ⟨h, (sr_ _ _ _)⟩ ?_
   rintro ⟨de, bx⟩ dd ds ⟨h, m⟩
   obtain ⟨d2, ex, rfl, h, a7⟩ := rnd1 h
   unfold fold_Level_lp1 at h
   try dsimp only at h m
   refine (show WC _ _ _ _ [(2, pt aF 0), (3, pt aG 0), (4, pt aH 0), (5, pt aI 0), (13, ag [vi a0.Scale, vu a0.Zero, vi a0.Pos.Offset, (vl L M P), vi a0.Neg.Offset, (vl Q S T), vi a1.Scale, vu a1.Zero, vi a1.Pos.Offset, (vl C D E), vi a1.Neg.Offset, (vl F G H)]), (14, vi de)] _ from ?_)
   refine sq (rg (wY (Y.lss_i z z) z (nl (th (sq ?_)))))
   rcases cnd h with ⟨a8, h⟩ | ⟨a8, h⟩
   ·refine WC.condT' z a8 (sk (th (sq (WC.block (sq (rg ?_))))))
    have dy := ((((a2.i U z z).i l z z).i j z z).i d z z).i m z z
    have dD := ((((a3.i U z z).i l z z).i j z z).i d z z).i m z z
    have dH := (((a4.i l z z).i j z z).i d z z).i m z z
    have dL := (((a5.i l z z).i j z z).i d z z).i m z z
    obtain ⟨aJ, bz, h⟩ := bnd h
    obtain ⟨em, aM, bE⟩ := arrAt (R := rep_api_Hist) (w := ds) (A := imm bx) (cells := [vi a0.Scale, vu a0.Zero, vi a0.Pos.Offset, (vl L M P), vi a0.Neg.Offset, (vl Q S T), vi a1.Scale, vu a1.Zero, vi a1.Pos.Offset, (vl C D E), vi a1.Neg.Offset, (vl F G H)]) (xs := [a0, a1]) ⟨(hl a0 (vl L M P) (vl Q S T)), (hl a1 (vl C D E) (vl F G H)), rfl, ⟨[vi a0.Scale], [vu a0.Zero, vi a0.Pos.Offset, (vl L M P), vi a0.Neg.Offset, (vl Q S T)], rfl, rfl, ⟨[vu a0.Zero], [vi a0.Pos.Offset, (vl L M P), vi a0.Neg.Offset, (vl Q S T)], rfl, rfl, ⟨[vi a0.Pos.Offset, (vl L M P)], [vi a0.Neg.Offset, (vl Q S T)], rfl, ⟨[vi a0.Pos.Offset], [(vl L M P)], rfl, rfl, ⟨_, rfl, dy⟩⟩, ⟨[vi a0.Neg.Offset], [(vl Q S T)], rfl, rfl, ⟨_, rfl, dD⟩⟩⟩⟩⟩, ⟨(hl a1 (vl C D E) (vl F G H)), [], rfl, ⟨[vi a1.Scale], [vu a1.Zero, vi a1.Pos.Offset, (vl C D E), vi a1.Neg.Offset, (vl F G H)], rfl, rfl, ⟨[vu a1.Zero], [vi a1.Pos.Offset, (vl C D E), vi a1.Neg.Offset, (vl F G H)], rfl, rfl, ⟨[vi a1.Pos.Offset, (vl C D E)], [vi a1.Neg.Offset, (vl F G H)], rfl, ⟨[vi a1.Pos.Offset], [(vl C D E)], rfl, rfl, ⟨_, rfl, dH⟩⟩, ⟨[vi a1.Neg.Offset], [(vl F G H)], rfl, rfl, ⟨_, rfl, dL⟩⟩⟩⟩⟩, rfl⟩⟩ bz
    obtain ⟨_, _, rfl, rfl, ⟨_, _, rfl, rfl, ⟨_, _, rfl, ⟨_, _, rfl, rfl, ⟨d3, rfl, bF⟩⟩, ⟨_, _, rfl, rfl, ⟨dM, rfl, bG⟩⟩⟩⟩⟩ := bE
    replace aM : _ = (hl aJ d3 dM) := aM
    refine wY (Y.indexArrAg ty176 ty38 z z aM bz) z (WL.alloc (O := bx) 15 hzr ty38 z z ?_)
    intro en dN d6 V bH
    have bd := bF.i V z z
    have bI := h
    obtain ⟨aN, aO, aP, rfl⟩ := bd.shape
    have h := bI
    have bf := bG.i V z z
    have bJ := h
    obtain ⟨aQ, aR, aS, rfl⟩ := bf.shape
    have h := bJ
    refine WL.store (v := ag (hl aJ (vl aN aO aP) (vl aQ aR aS))) (cells' := (hl aJ (vl aN aO aP) (vl aQ aR aS))) ty38 z z bH z (le_ z) z z ?_
    intro d7 W bK
    refine nl (th (sq (rg (wY (yL ty38 z z (bK.cells 0 (hl aJ (vl aN aO aP) (vl aQ aR aS)) z) z) z ?_))))
    have bL := bd.i W z z
    have bM := bf.i W z z
    obtain ⟨eo, bO, h⟩ := bnd h
    refine WL.call (vals := [ag (hl aJ (vl aN aO aP) (vl aQ aR aS))]) kok39 z z (c_hist_Check (A := fun _ => True) (a0 := aJ) (Sl.all bL) (Sl.all bM) bO) ?_
    rintro d8 d9 ⟨rfl, bP⟩
    obtain ⟨bA, dU, dV, aq⟩ := adoptE dN (fun k => 1) bP
    refine wY (ya z) z (nl (th (sq (rg (wY (ym z) z (wY (Y.neq_i z z) z (nl (th ?_))))))))
    rcases cnd h with ⟨aT, h⟩ | ⟨aT, h⟩
    ·refine WC.condT' z aT (sq (rg (wY (yb (vals := []) (cells := hzr) (fe_ z) (by kernel_rfl)) z (wY (yb (vals := []) (cells := hzr) (fe_ z) (by kernel_rfl)) z (wY (ym z) z ?_)))))
     have bU := ((((bq.st d z).st m z).st V z).st W z).st aq z
     refine WL.store (v := ag hzr) (cells' := hzr) ty38 z z bU z (le_ z) z z ?_
     intro ea aX bW
     have b1 := ((((br.st m z).st V z).st W z).st aq z).st aX z
     refine WL.store (v := ag hzr) (cells' := hzr) ty38 z z b1 z (le_ z) z z ?_
     intro b2 aY b3
     refine wY (ya z) z (nl (th (rt (At.inBlockR (At.thenR (At.loopR ?_))))))
     have h := outr1 h a7 bw
     refine At.joinBR (At.inBlockR ?_)
     have h := outs1 h bu
     refine At.joinR (At.thenR ?_)
     obtain ⟨rfl, rfl, rfl⟩ := tup3 h
     have b4 : Stp [13, 14, 15] (Lg.O0 A) w bA b2 := (tr_ (su_ U z) (tr_ (su_ l z) (tr_ (su_ j z) (tr_ (su_ d z) (tr_ (su_ m z) (tr_ (su_ V z) (tr_ (su_ W z) (tr_ (su_ aq z) (tr_ (su_ aX z) (su_ aY z))))))))))
     have b5 := bW.st aY z
     exact At.res (.inl z) z (.cell z (b5.runAg 0 hzr ty38 z z z) (.cell z (b3.runAg 0 hzr ty38 z z z) (.tmp z .nil))) ⟨sn, sn, sn, sn, z, (se_ b4 z z), RowF.nil, RowF.nil, RowF.nil, RowF.nil, (fun _ e => absurd e not_nil), (fun _ e => absurd e not_nil), (fun _ e => absurd e not_nil), (fun _ e => absurd e not_nil), (fun _ e => absurd e not_nil), (fun _ e => absurd e not_nil)⟩
    ·refine WC.condF' z aT (sk (At.inBlock (th (rg (wY (Y.add_i z z) z (wY (ym z) z (nl ?_)))))))
     exact At.round (w64 (de + 1), bA) d2 (Nat.lt_succ_self _) ⟨next1 h a7, (tr_ (su_ m z) (tr_ (su_ V z) (tr_ (su_ W z) (su_ aq z))))⟩ (.cons z (.cons z (.cons z (.cons z (.cons z (.cons z .nil))))))
   ·refine WC.condF' z a8 (WC.exit (At.thenX (At.loopX ?_)))
    exact At.hitB (σ := Own) bx ⟨brk1 h a7, (su_ m z)⟩ (.cons z (.cons z (.cons z (.cons z .nil))))
  ·rintro d4 ep ⟨rfl, b6⟩
   replace h := flowK_go bw
   refine (show At _ _ _ [(2, pt aF 0), (3, pt aG 0), (4, pt aH 0), (5, pt aI 0)] _ from ?_)
   refine At.inBlockHit ?_
   exact At.join (σ := Own) d4 ⟨go2 h, (su_ b6 z)⟩ (.cons z (.cons z (.cons z (.cons z .nil))))
 ·rintro d5 es ⟨rfl, t⟩
  replace h := flowK_go bu
  refine (show At _ _ _ [(2, pt aF 0), (3, pt aG 0), (4, pt aH 0), (5, pt aI 0)] _ from ?_)
  refine th (sq (rg (wY (yf fo38_0 z) z ?_)))
  have aU := bs.st t z
  refine wY (yl ty3 z z (aU.cell 0 _ z)) z (wY (yf fo38_0 z) z ?_)
  have bg := bt.st t z
  refine wY (yl ty3 z z (bg.cell 0 _ z)) z (wY (Y.min_i z z) z ?_)
  obtain ⟨aE, aZ, h⟩ := lt1 h
  refine WL.yE (ya z) (congrArg vi aZ.symm) z (nl (th (sq (rg (wY (yL ty38 z z (aU.cells 0 (hl a0 (vl L M P) (vl Q S T)) z) z) z (wY (yf fo38_0 z) z (wY (yl ty3 z z (aU.cell 0 _ z)) z (wY (ym z) z (wY (Y.sub_i z z) z ?_)))))))))
  have cb := ((((a2.i U z z).i l z z).i j z z).i d z z).i t z z
  have cg := ((((a3.i U z z).i l z z).i j z z).i d z z).i t z z
  obtain ⟨⟨aa, et⟩, ch, h⟩ := bnd h
  refine WL.call (vals := [ag (hl a0 (vl L M P) (vl Q S T)), vi (w64 (a0.Scale - aE))]) kok128 z z (c_hist_Down (A := fun _ => True) (a0 := a0) (Sl.all cb) (Sl.all cg) ch) ?_
  rintro eb bh ⟨a9, bB, rfl, ci, dO, dP, dQ⟩
  obtain ⟨ba, dW, aK, X⟩ := adoptE d5 (fun k => if ob a9 = some k then 16 else if ob bB = some k then 17 else 1) ci
  have bi : OwnSl 16 Rep.u 33 ba bh a9 aa.Pos.Counts := RowF.adopt 16 Flat.u dO aK (fun k hk => if_pos hk)
  have bj : OwnSl 17 Rep.u 33 ba bh bB aa.Neg.Counts := RowF.adopt 17 Flat.u dP aK (fun k hk => (if_neg (fun (e : ob a9 = some k) => dQ k e hk)).trans (if_pos hk))
  refine wY (ym z) z (wY (yx z z) z (wY (yx z z) z ?_))
  have cj := h
  obtain ⟨ad, ae, af, rfl⟩ := bi.shape
  have h := cj
  have ck := h
  obtain ⟨ah, ai, aj, rfl⟩ := bj.shape
  have h := ck
  have cn := ((bq.st d z).st t z).st X z
  refine WL.store (v := ag (hl aa (vl ad ae af) (vl ah ai aj))) (cells' := (hl aa (vl ad ae af) (vl ah ai aj))) ty38 z z cn z (le_ z) z z ?_
  intro ec I co
  refine nl (th (sq (rg ?_)))
  have bk := (bg.st X z).st I z
  refine wY (yL ty38 z z (bk.cells 0 (hl a1 (vl C D E) (vl F G H)) z) z) z (wY (yf fo38_0 z) z (wY (yl ty3 z z (bk.cell 0 _ z)) z (wY (ym z) z (wY (Y.sub_i z z) z ?_))))
  have cw := (((((a4.i l z z).i j z z).i d z z).i t z z).i X z z).i I z z
  have cD := (((((a5.i l z z).i j z z).i d z z).i t z z).i X z z).i I z z
  obtain ⟨⟨ab, eu⟩, cE, h⟩ := bnd h
  refine WL.call (vals := [ag (hl a1 (vl C D E) (vl F G H)), vi (w64 (a1.Scale - aE))]) kok128 z z (c_hist_Down (A := fun _ => True) (a0 := a1) (Sl.all cw) (Sl.all cD) cE) ?_
  rintro ed bl ⟨bb, bC, rfl, cF, dR, dS, dT⟩
  obtain ⟨aW, dX, aL, ac⟩ := adoptE ba (fun k => if ob bb = some k then 18 else if ob bC = some k then 19 else 1) cF
  have bm : OwnSl 18 Rep.u 33 aW bl bb ab.Pos.Counts := RowF.adopt 18 Flat.u dR aL (fun k hk => if_pos hk)
  have bn : OwnSl 19 Rep.u 33 aW bl bC ab.Neg.Counts := RowF.adopt 19 Flat.u dS aL (fun k hk => (if_neg (fun (e : ob bb = some k) => dT k e hk)).trans (if_pos hk))
  refine wY (ym z) z (wY (yx z z) z (wY (yx z z) z ?_))
  have cG := h
  obtain ⟨ak, al, am, rfl⟩ := bm.shape
  have h := cG
  have cH := h
  obtain ⟨an, ao, ap, rfl⟩ := bn.shape
  have h := cH
  have cL := (((br.st t z).st X z).st I z).st ac z
  refine WL.store (v := ag (hl ab (vl ak al am) (vl an ao ap))) (cells' := (hl ab (vl ak al am) (vl an ao ap))) ty38 z z cL z (le_ z) z z ?_
  intro ee Z bo
  refine nl (th (sq (WC.drawH [13] [0, 1, 2] aW 5 fmix z (by kernel_rfl) ?_)))
  intro ef o
  refine WD.y 1 z (by kernel_rfl) (fun eg ew bD => have cM := bo.st o z; have cN := cM.st bD z; yL ty38 z z (cN.cells 0 (hl ab (vl ak al am) (vl an ao ap)) z) z) z (WD.heavy 0 z (by kernel_rfl) ?_)
  have bp := ((co.st ac z).st Z z).st o z
  refine wY (yL ty38 z z (bp.cells 0 (hl aa (vl ad ae af) (vl ah ai aj)) z) z) z (nl (At.dq (sr_ _ _ _) (WD.heavy 2 z (by kernel_rfl) (WL.store (v := ag (hl aa (vl ad ae af) (vl ah ai aj))) (cells' := (hl aa (vl ad ae af) (vl ah ai aj))) ty38 z z bp z (le_ z) z z ?_))))
  intro eh J cQ
  refine nl (At.dq (su_ J z) (WD.phase [14] [0, 1, 2, 3, 4] (by kernel_rfl) (by kernel_rfl) (WD.heavy 3 z (by kernel_rfl) ?_)))
  have cS := (bo.st o z).st J z
  refine WL.store (v := ag (hl ab (vl ak al am) (vl an ao ap))) (cells' := (hl ab (vl ak al am) (vl an ao ap))) ty38 z z cS z (le_ z) z z ?_
  intro cT K cU
  refine nl (At.dq (su_ K z) (WD.y 4 z (by kernel_rfl) (fun _ _ _ => ya z) z (WD.done_ (by kernel_rfl) (th (rt ?_)))))
  obtain ⟨rfl, rfl, rfl⟩ := tup3 h
  have ar : Stp [13, 14, 15] (Lg.O0 A) w aW cT := (tr_ (su_ U z) (tr_ (su_ l z) (tr_ (su_ j z) (tr_ (su_ d z) (tr_ (su_ t z) (tr_ (su_ X z) (tr_ (su_ I z) (tr_ (su_ ac z) (tr_ (su_ Z z) (tr_ (su_ o z) (tr_ (su_ J z) (su_ K z))))))))))))
  have au := (((((bi.st I z z z).st ac z z z).st Z z z z).st o z z z).st J z z z).st K z z z
  have av := (((((bj.st I z z z).st ac z z z).st Z z z z).st o z z z).st J z z z).st K z z z
  have ax := (((bm.st Z z z z).st o z z z).st J z z z).st K z z z
  have ay := (((bn.st Z z z z).st o z z z).st J z z z).st K z z z
  have db := cQ.st K z
  exact At.res (.inl z) z (.cell z (db.runAg 0 (hl aa (vl ad ae af) (vl ah ai aj)) ty38 z z z) (.cell z (cU.runAg 0 (hl ab (vl ak al am) (vl an ao ap)) ty38 z z z) (.tmp z .nil))) ⟨(vl ad ae af), (vl ah ai aj), (vl ak al am), (vl an ao ap), z, (se_ ar z z), (OwnSl.outF au ar low0 z), (OwnSl.outF av ar low0 z), (OwnSl.outF ax ar low0 z), (OwnSl.outF ay ar low0 z), (ne_own au av z), (ne_own au ax z), (ne_own av ax z), (ne_own au ay z), (ne_own av ay z), (ne_own ax ay z)⟩
theorem c_fold_ends {A : Nat → Prop} {v0_1 : Value} {a0 : api_Side} {w : World} (hs0_1 : Sl Rep.u w A v0_1 a0.Counts) {r0 : Int} {r1 : Int} (h : fold_ends a0 = some (r0, r1)) : Rets Tryz.prog 164 [ag [vi a0.Offset, v0_1]] w (fun v w' => v = tp [vi r0, vi r1] ∧ Ext w w') := by
 unfold fold_ends at h
 refine Rets.enter Tryz.func164 z z ?_
 have m : Sl Rep.u w (imm (Lg.O0 A)) v0_1 a0.Counts := (Sl.start hs0_1)
 refine (show WC _ _ _ _ [(0, ag [vi a0.Offset, v0_1])] _ from ?_)
 refine sq (rg ?_)
 have C := h
 obtain ⟨I, J, K, rfl⟩ := m.shape
 have h := C
 refine WL.box (O := (Lg.O0 A)) 11 [vi a0.Offset, (vl I J K)] z z z ?_
 intro P t L l D
 refine wY (ya z) z (wY (ya z) z (nl (th (sq (WC.draw 9 t fmix (by kernel_rfl) ?_)))))
 intro E d
 refine WS.y (yf fo36_0 z) z ?_
 have j := D.st d z
 refine WS.y (yl ty3 z z (j.cell 0 _ z)) z (WS.y (yf fo36_0 z) z (WS.y (yl ty3 z z (j.cell 0 _ z)) z (WS.y (yf fo36_1 z) z (WS.y (yl ty34 z z (j.cell 1 _ z)) z ?_))))
 have G := (m.i l z z).i d z z
 refine WS.y (Y.len ty34 z G) z (WS.y (Y.add_i z z) z (WS.y (ya z) z (WS.tail ?_)))
 obtain ⟨M, o, h⟩ := lt1 h
 refine WL.yE (ya z) (congrArg vi o.symm) z (nl (th (rt ?_)))
 obtain ⟨rfl, rfl⟩ := tup2 h
 have H : Stp [] (Lg.O0 A) w t E := (tr_ (su_ l z) (su_ d z))
 exact At.res (.inl z) z (.tmp z (.tmp z .nil)) ⟨z, (se_ H z z)⟩
theorem c_fold_cover {A : Nat → Prop} {v0_1 : Value} {a0 : api_Side} {v1_1 : Value} {a1 : api_Side} {w : World} (hs0_1 : Sl Rep.u w A v0_1 a0.Counts) (hs1_1 : Sl Rep.u w A v1_1 a1.Counts) {r0 : Int} {r1 : Int} (h : fold_cover a0 a1 = some (r0, r1)) : Rets Tryz.prog 147 [ag [vi a0.Offset, v0_1], ag [vi a1.Offset, v1_1]] w (fun v w' => v = tp [vi r0, vi r1] ∧ Ext w w') := by
 unfold fold_cover at h
 refine Rets.enter Tryz.func147 z z ?_
 have J : Sl Rep.u w (imm (Lg.O0 A)) v0_1 a0.Counts := (Sl.start hs0_1)
 have ac : Sl Rep.u w (imm (Lg.O0 A)) v1_1 a1.Counts := (Sl.start hs1_1)
 refine (show WC _ _ _ _ [(0, ag [vi a0.Offset, v0_1]), (1, ag [vi a1.Offset, v1_1])] _ from ?_)
 refine sq (rg ?_)
 have ad := h
 obtain ⟨K, L, M, rfl⟩ := J.shape
 have h := ad
 refine WL.box (O := (Lg.O0 A)) 11 [vi a0.Offset, (vl K L M)] z z z ?_
 intro aS aA aK j ae
 have C := ac.i j z z
 have af := h
 obtain ⟨P, Q, S, rfl⟩ := C.shape
 have h := af
 refine WL.box (O := aA) 12 [vi a1.Offset, (vl P Q S)] z z z ?_
 intro aT t aL d D
 refine wY (ya z) z (wY (ya z) z (nl (th (sq (sq (rg (wY (yf fo36_1 z) z ?_)))))))
 have E := ae.st d z
 refine wY (yl ty34 z z (E.cell 1 _ z)) z ?_
 have F := (J.i j z z).i d z z
 refine wY (Y.len ty34 z F) z (wY (Y.eql_i z z) z (nl (th ?_)))
 rcases cnd h with ⟨G, h⟩ | ⟨G, h⟩
 ·refine WC.condT' z G (sq (WC.draw 6 t fmix (by kernel_rfl) ?_))
  intro ai l
  refine WS.y (yf fo36_0 z) z ?_
  have T := D.st l z
  refine WS.y (yl ty3 z z (T.cell 0 _ z)) z (WS.y (yf fo36_1 z) z (WS.y (yl ty34 z z (T.cell 1 _ z)) z ?_))
  have ak := (C.i d z z).i l z z
  refine WS.y (Y.len ty34 z ak) z (WS.y (ya z) z (WS.tail ?_))
  obtain ⟨aM, X, h⟩ := lt1 h
  refine WL.yE (ya z) (congrArg vi X.symm) z (nl (th (rt (At.thenR ?_))))
  obtain ⟨rfl, rfl⟩ := tup2 h
  have al : Stp [] (Lg.O0 A) w t ai := (tr_ (su_ j z) (tr_ (su_ d z) (su_ l z)))
  exact At.res (.inl z) z (.tmp z (.tmp z .nil)) ⟨z, (se_ al z z)⟩
 ·refine WC.condF' z G (sk (th (sq (sq (rg (wY (yf fo36_1 z) z (wY (yl ty34 z z (D.cell 1 _ z)) z ?_)))))))
  have U := C.i d z z
  refine wY (Y.len ty34 z U) z (wY (Y.eql_i z z) z (nl (th ?_)))
  rcases cnd h with ⟨H, h⟩ | ⟨H, h⟩
  ·refine WC.condT' z H (sq (WC.draw 6 t fmix (by kernel_rfl) ?_))
   intro am m
   refine WS.y (yf fo36_0 z) z ?_
   have V := E.st m z
   refine WS.y (yl ty3 z z (V.cell 0 _ z)) z (WS.y (yf fo36_1 z) z (WS.y (yl ty34 z z (V.cell 1 _ z)) z ?_))
   have an := F.i m z z
   refine WS.y (Y.len ty34 z an) z (WS.y (ya z) z (WS.tail ?_))
   obtain ⟨aN, Z, h⟩ := lt1 h
   refine WL.yE (ya z) (congrArg vi Z.symm) z (nl (th (rt (At.thenR ?_))))
   obtain ⟨rfl, rfl⟩ := tup2 h
   have ao : Stp [] (Lg.O0 A) w t am := (tr_ (su_ j z) (tr_ (su_ d z) (su_ m z)))
   exact At.res (.inl z) z (.tmp z (.tmp z .nil)) ⟨z, (se_ ao z z)⟩
  ·refine WC.condF' z H (sk (th (sq (rg (wY (yL ty36 z z (E.cells 0 [vi a0.Offset, (vl K L M)] z) z) z ?_)))))
   obtain ⟨⟨aU, aW⟩, ap, h⟩ := bnd h
   refine WL.call (vals := [ag [vi a0.Offset, (vl K L M)]]) kok164 z z (c_fold_ends (A := fun _ => True) (a0 := a0) (Sl.all F) ap) ?_
   rintro aO aP ⟨rfl, aq⟩
   obtain ⟨aC, aD, aE, o⟩ := adoptE t (fun k => 1) aq
   refine wY (ym z) z (wY (yx z z) z (wY (yx z z) z (wY (ya z) z (wY (ya z) z (nl (th (sq (rg ?_))))))))
   have ar := D.st o z
   refine wY (yL ty36 z z (ar.cells 0 [vi a1.Offset, (vl P Q S)] z) z) z ?_
   have au := U.i o z z
   obtain ⟨⟨aX, aY⟩, av, h⟩ := bnd h
   refine WL.call (vals := [ag [vi a1.Offset, (vl P Q S)]]) kok164 z z (c_fold_ends (A := fun _ => True) (a0 := a1) (Sl.all au) av) ?_
   rintro aQ ax ⟨rfl, ay⟩
   obtain ⟨aF, aG, aH, aa⟩ := adoptE aC (fun k => 1) ay
   refine wY (ym z) z (wY (yx z z) z (wY (yx z z) z (wY (ya z) z (wY (ya z) z (nl (th (sq (rg (wY (ym z) z ?_)))))))))
   refine wY (ym z) z (wY (Y.min_i z z) z (wY (ym z) z (wY (ym z) z (wY (Y.max_i z z) z ?_))))
   obtain ⟨aI, I, h⟩ := lt1 h
   refine WL.yE (ya z) (congrArg vi I.symm) z ?_
   obtain ⟨aJ, W, h⟩ := lt1 h
   refine WL.yE (ya z) (congrArg vi W.symm) z (nl (th (sq (rg (wY (ym z) z (wY (ym z) z (wY (ym z) z (wY (Y.sub_i z z) z (wY (ya z) z ?_)))))))))
   obtain ⟨aR, ab, h⟩ := lt1 h
   refine WL.yE (ya z) (congrArg vi ab.symm) z (nl (th (rt ?_)))
   obtain ⟨rfl, rfl⟩ := tup2 h
   have az : Stp [] (Lg.O0 A) w aF ax := (tr_ (su_ j z) (tr_ (su_ d z) (tr_ (su_ o z) (su_ aa z))))
   exact At.res (.inl z) z (.tmp z (.tmp z .nil)) ⟨z, (se_ az z z)⟩
theorem c_hist_At {A : Nat → Prop} {v0_1 : Value} {a0 : api_Side} {a1 : Int} {w : World} (hs0_1 : Sl Rep.u w A v0_1 a0.Counts) {r0 : UInt64} (h : hist_At a0 a1 = some r0) : Rets Tryz.prog 148 [ag [vi a0.Offset, v0_1], vi a1] w (fun v w' => v = vu r0 ∧ Ext w w') := by
 unfold hist_At at h
 refine Rets.enter Tryz.func148 z z ?_
 have l : Sl Rep.u w (imm (Lg.O0 A)) v0_1 a0.Counts := (Sl.start hs0_1)
 refine (show WC _ _ _ _ [(0, ag [vi a0.Offset, v0_1]), (1, vi a1)] _ from ?_)
 refine sq (rg ?_)
 have H := h
 obtain ⟨U, V, W, rfl⟩ := l.shape
 have h := H
 refine WL.box (O := (Lg.O0 A)) 11 [vi a0.Offset, (vl U V W)] z z z ?_
 intro F G m d j
 refine wY (ya (v := vu 0) z) z (nl (th (sq (sq (rg (wY (ym z) z (wY (yf fo36_0 z) z (wY (yl ty3 z z (j.cell 0 _ z)) z (wY (Y.lss_i z z) z ?_)))))))))
 refine wY (ym z) z ?_
 refine WL.cut 12 (σ := Unit) (fun _ w' => m = w') (fun _ => [(1, vi a1), (2, pt F 0), (21, vB ((decide (a1 < a0.Offset)) || (decide (toU64 (a0.Counts.length : Int) ≤ ((toU64 a1) - (toU64 a0.Offset))))))]) ?_ ?_
 ·refine WL.part 9 z (fun o => ?_) (fun o => ?_)
  ·refine WL.gS z z z z (WL.gS z z z z (WL.gS z z z z (WL.gS z z z z (WL.gS z z z z (WL.gS z z z z (WL.gS z z z z (WL.gS z z z z (WL.gS z z z z (WL.gS z z z z ?_)))))))))
   refine WL.gS z z z z (wY (Y.pick (b := true) z z) z (WL.ren (v' := vB ((decide (a1 < a0.Offset)) || (decide (toU64 (a0.Counts.length : Int) ≤ ((toU64 a1) - (toU64 a0.Offset)))))) 21 z (congrArg vB (orT o)) ?_))
   exact nl (At.join () z (.cons z (.cons z (.cons z .nil))))
  ·refine ug z z (wY (ym z) z (ug z z (wY (Y.conv_iu ty3.u ty33.u z) z (ug z z (wY (yf fo36_0 z) z (ug z z (wY (yl ty3 z z (j.cell 0 _ z)) z (ug z z (wY (Y.conv_iu ty3.u ty33.u z) z ?_)))))))))
   refine ug z z (wY (Y.sub_u z z) z (ug z z (wY (yf fo36_1 z) z (ug z z (wY (yl ty34 z z (j.cell 1 _ z)) z (ug z z ?_))))))
   have I := l.i d z z
   refine wY (Y.len ty34 z I) z (ug z z (wY (Y.conv_iu ty3.u ty33.u z) z (ug z z (wY (Y.geq_u z z) z (wY (Y.pick (b := false) z z) z (WL.ren (v' := vB ((decide (a1 < a0.Offset)) || (decide (toU64 (a0.Counts.length : Int) ≤ ((toU64 a1) - (toU64 a0.Offset)))))) 21 z (congrArg vB (orF o)) ?_))))))
   exact nl (At.join () z (.cons z (.cons z (.cons z .nil))))
 ·rintro _ _ rfl
  refine (show WL _ _ _ _ _ [(1, vi a1), (2, pt F 0), (21, vB ((decide (a1 < a0.Offset)) || (decide (toU64 (a0.Counts.length : Int) ≤ ((toU64 a1) - (toU64 a0.Offset))))))] _ from ?_)
  refine nl (th ?_)
  rcases cnd h with ⟨t, h⟩ | ⟨t, h⟩
  ·refine WC.condT' z t (sq (rg (wY (ya (v := vu 0) z) z (nl (th (rt (At.thenR ?_)))))))
   obtain rfl := some1 h
   have J : Stp [] (Lg.O0 A) w G m := (su_ d z)
   exact At.res (.inl z) z (.tmp z .nil) ⟨z, (se_ J z z)⟩
  ·refine WC.condF' z t (sk (th (sq (rg (wY (yf fo36_1 z) z (wY (yl ty34 z z (j.cell 1 _ z)) z (wY (ym z) z (wY (yf fo36_0 z) z (wY (yl ty3 z z (j.cell 0 _ z)) z ?_)))))))))
   refine wY (Y.sub_i z z) z ?_
   obtain ⟨X, K, h⟩ := bnd h
   have L := l.i d z z
   obtain ⟨ac, Z, aa, ab, M, P, Q, C, D, S⟩ := Sl.at2 L K
   obtain rfl := D
   replace C : CellsAt _ _ _ [vu X] := C
   have E := CAt.imm C S
   refine wY (Y.indexAddr ty34 ty33 z M z P Q) z (wY (yl ty33 z z E.at_) z (wY (ya z) z (nl (th (rt ?_)))))
   obtain rfl := some1 h
   have T : Stp [] (Lg.O0 A) w G m := (su_ d z)
   exact At.res (.inl z) z (.tmp z .nil) ⟨z, (se_ T z z)⟩
theorem c_fold_Merge {A : Nat → Prop} {v0_3 : Value} {v0_5 : Value} {a0 : api_Hist} {v1_3 : Value} {v1_5 : Value} {a1 : api_Hist} {w : World} (hs0_3 : Sl Rep.u w A v0_3 a0.Pos.Counts) (hs0_5 : Sl Rep.u w A v0_5 a0.Neg.Counts) (hs1_3 : Sl Rep.u w A v1_3 a1.Pos.Counts) (hs1_5 : Sl Rep.u w A v1_5 a1.Neg.Counts) {r0 : api_Hist} {r1 : Int} (h : fold_Merge a0 a1 = some (r0, r1)) : Rets Tryz.prog 127 [ag (hl a0 v0_3 v0_5), ag (hl a1 v1_3 v1_5)] w (fun v w' => ∃ (b8 : Value) (b9 : Value), v = Value.tuple (List.toArray [ag (hl r0 b8 b9), vi r1]) ∧ Ext w w' ∧ RowF Rep.u 33 w w' b8 r0.Pos.Counts ∧ RowF Rep.u 33 w w' b9 r0.Neg.Counts ∧ (∀ k, ob b8 = some k → ob b9 ≠ some k)) := by
 unfold fold_Merge at h
 refine Rets.enter Tryz.func127 z z ?_
 have cQ : Sl Rep.u w (imm (Lg.O0 A)) v0_3 a0.Pos.Counts := (Sl.start hs0_3)
 have cR : Sl Rep.u w (imm (Lg.O0 A)) v0_5 a0.Neg.Counts := (Sl.start hs0_5)
 have i3 : Sl Rep.u w (imm (Lg.O0 A)) v1_3 a1.Pos.Counts := (Sl.start hs1_3)
 have i4 : Sl Rep.u w (imm (Lg.O0 A)) v1_5 a1.Neg.Counts := (Sl.start hs1_5)
 refine (show WC _ _ _ _ [(0, ag (hl a0 v0_3 v0_5)), (1, ag (hl a1 v1_3 v1_5))] _ from ?_)
 refine sq (rg ?_)
 have i5 := h
 obtain ⟨cS, cT, cU, rfl⟩ := cQ.shape
 have h := i5
 have i6 := h
 obtain ⟨cV, cW, cX, rfl⟩ := cR.shape
 have h := i6
 refine WL.box (O := (Lg.O0 A)) 11 (hl a0 (vl cS cT cU) (vl cV cW cX)) z z z ?_
 intro mH kC lW av i7
 have cY := i3.i av z z
 have i8 := h
 obtain ⟨cZ, c0, c1, rfl⟩ := cY.shape
 have h := i8
 have c2 := i4.i av z z
 have i9 := h
 obtain ⟨c3, c4, c5, rfl⟩ := c2.shape
 have h := i9
 refine WL.box (O := kC) 12 (hl a1 (vl cZ c0 c1) (vl c3 c4 c5)) z z z ?_
 intro mI kD lX am ja
 refine WL.alloc (O := kD) 13 hzr ty38 z z ?_
 intro ab kE lY ac aW
 refine wY (ya z) z (nl (th (sq (rg ?_))))
 have jc := (i7.st am z).st ac z
 refine wY (yL ty38 z z (jc.cells 0 (hl a0 (vl cS cT cU) (vl cV cW cX)) z) z) z ?_
 have jd := ja.st ac z
 refine wY (yL ty38 z z (jd.cells 0 (hl a1 (vl cZ c0 c1) (vl c3 c4 c5)) z) z) z ?_
 have jg := ((cQ.i av z z).i am z z).i ac z z
 have jj := ((cR.i av z z).i am z z).i ac z z
 have jl := (cY.i am z z).i ac z z
 have jn := (c2.i am z z).i ac z z
 obtain ⟨⟨d, l, mJ⟩, jo, h⟩ := bnd h
 refine WL.call (vals := [ag (hl a0 (vl cS cT cU) (vl cV cW cX)), ag (hl a1 (vl cZ c0 c1) (vl c3 c4 c5))]) kok126 z z (c_fold_Level (A := fun _ => True) (a0 := a0) (a1 := a1) (Sl.all jg) (Sl.all jj) (Sl.all jl) (Sl.all jn) jo) ?_
 rintro lZ bf ⟨bX, cc, c6, i1, rfl, jp, kF, kG, kH, kI, kJ, kK, kL, kM, kN, kO⟩
 obtain ⟨bY, kP, aD, an⟩ := adoptE kE (fun k => if ob bX = some k then 14 else if ob cc = some k then 15 else if ob c6 = some k then 16 else if ob i1 = some k then 17 else 1) jp
 have jq : OwnSl 14 Rep.u 33 bY bf bX d.Pos.Counts := RowF.adopt 14 Flat.u kF aD (fun k hk => if_pos hk)
 have jr : OwnSl 15 Rep.u 33 bY bf cc d.Neg.Counts := RowF.adopt 15 Flat.u kG aD (fun k hk => (if_neg (fun (e : ob bX = some k) => kJ k e hk)).trans (if_pos hk))
 have js : OwnSl 16 Rep.u 33 bY bf c6 l.Pos.Counts := RowF.adopt 16 Flat.u kH aD (fun k hk => (if_neg (fun (e : ob bX = some k) => kK k e hk)).trans ((if_neg (fun (e : ob cc = some k) => kL k e hk)).trans (if_pos hk)))
 have jt : OwnSl 17 Rep.u 33 bY bf i1 l.Neg.Counts := RowF.adopt 17 Flat.u kI aD (fun k hk => (if_neg (fun (e : ob bX = some k) => kM k e hk)).trans ((if_neg (fun (e : ob cc = some k) => kN k e hk)).trans ((if_neg (fun (e : ob c6 = some k) => kO k e hk)).trans (if_pos hk))))
 refine wY (ym z) z (wY (yx z z) z (wY (yx z z) z (wY (yx z z) z (WL.alloc (O := bY) 18 hzr ty38 z z ?_))))
 intro mK kQ l0 K ju
 refine WL.alloc (O := kQ) 19 hzr ty38 z z ?_
 intro mL i2 l1 F jv
 have cd := (jq.st K z z z).st F z z z
 have dK := h
 obtain ⟨L, M, P, rfl⟩ := cd.shape
 have h := dK
 have ce := (jr.st K z z z).st F z z z
 have dM := h
 obtain ⟨Q, S, T, rfl⟩ := ce.shape
 have h := dM
 have dN := ju.st F z
 refine WL.store (v := ag (hl d (vl L M P) (vl Q S T))) (cells' := (hl d (vl L M P) (vl Q S T))) ty38 z z dN z (le_ z) z z ?_
 intro kV o dO
 have cf := ((js.st K z z z).st F z z z).st o z z z
 have dR := h
 obtain ⟨U, V, W, rfl⟩ := cf.shape
 have h := dR
 have cg := ((jt.st K z z z).st F z z z).st o z z z
 have dU := h
 obtain ⟨X, Z, aa, rfl⟩ := cg.shape
 have h := dU
 have dV := jv.st o z
 refine WL.store (v := ag (hl l (vl U V W) (vl X Z aa))) (cells' := (hl l (vl U V W) (vl X Z aa))) ty38 z z dV z (le_ z) z z ?_
 intro kW t dW
 refine wY (ya z) z (nl (th (sq (sq (rg (wY (ym z) z (wY (Y.neq_i z z) z (nl (th ?_)))))))))
 rcases cnd h with ⟨bg, h⟩ | ⟨bg, h⟩
 ·refine WC.condT' z bg (sq (rg (wY (yb (vals := []) (cells := hzr) (fe_ z) (by kernel_rfl)) z (wY (ym z) z ?_))))
  have d1 := ((((aW.st an z).st K z).st F z).st o z).st t z
  refine WL.store (v := ag hzr) (cells' := hzr) ty38 z z d1 z (le_ z) z z ?_
  intro d2 c7 d3
  refine wY (ya z) z (nl (th (rt (At.thenR ?_))))
  obtain ⟨rfl, rfl⟩ := tup2 h
  have d4 : Stp [13, 18, 19] (Lg.O0 A) w i2 d2 := (tr_ (su_ av z) (tr_ (su_ am z) (tr_ (su_ ac z) (tr_ (su_ an z) (tr_ (su_ K z) (tr_ (su_ F z) (tr_ (su_ o z) (tr_ (su_ t z) (su_ c7 z)))))))))
  exact At.res (.inl z) z (.cell z (d3.runAg 0 hzr ty38 z z z) (.tmp z .nil)) ⟨sn, sn, z, (se_ d4 z z), RowF.nil, RowF.nil, (fun _ e => absurd e not_nil)⟩
 ·refine WC.condF' z bg (sk (th (sq (rg ?_))))
  have ch := dO.st t z
  refine wY (yL ty38 z z (ch.cells 0 (hl d (vl L M P) (vl Q S T)) z) z) z ?_
  have ci := (cd.st o z z z).st t z z z
  have cj := (ce.st o z z z).st t z z z
  obtain ⟨⟨l2, l3⟩, d7, h⟩ := bnd h
  refine WL.call (vals := [ag (hl d (vl L M P) (vl Q S T))]) kok71 z z (c_hist_Total (A := fun _ => True) (a0 := d) (ci.src.sl) (cj.src.sl) d7) ?_
  rintro kX kY ⟨rfl, d8⟩
  obtain ⟨jw, kj, kk, C⟩ := adoptE i2 (fun k => 1) d8
  refine wY (ym z) z (wY (yx z z) z (wY (yx z z) z (wY (ya z) z (wY (ya z) z (nl (th (sq (rg ?_))))))))
  have ck := dW.st C z
  refine wY (yL ty38 z z (ck.cells 0 (hl l (vl U V W) (vl X Z aa)) z) z) z ?_
  have cl := (cf.st t z z z).st C z z z
  have cm := (cg.st t z z z).st C z z z
  obtain ⟨⟨l4, l5⟩, eb, h⟩ := bnd h
  refine WL.call (vals := [ag (hl l (vl U V W) (vl X Z aa))]) kok71 z z (c_hist_Total (A := fun _ => True) (a0 := l) (cl.src.sl) (cm.src.sl) eb) ?_
  rintro kZ k0 ⟨rfl, ec⟩
  obtain ⟨c8, km, kn, D⟩ := adoptE jw (fun k => 1) ec
  refine wY (ym z) z (wY (yx z z) z (wY (yx z z) z (wY (ya z) z (wY (ya z) z (nl (th (sq (sq (rg ?_)))))))))
  refine wY (ym z) z (wY (ym z) z (wY (Y.add64 (c := 0) x64_110 (by decide) z z z) z (wY (ym z) z (wY (yx z z) z (wY (yx z z) z ?_)))))
  obtain ⟨l6, ed, h⟩ := lt1 h
  refine WL.yE (ya z) (congrArg vu ed.symm) z ?_
  obtain ⟨jx, bZ, h⟩ := lt1 h
  refine WL.yE (ya z) (congrArg vu bZ.symm) z (nl (th (sq (rg (wY (ym z) z (wY (Y.neq_u (b := 0) z z) z (nl (th ?_))))))))
  rcases cnd h with ⟨bh, h⟩ | ⟨bh, h⟩
  ·refine WC.condT' z bh (sq (rg (wY (yb (vals := []) (cells := hzr) (fe_ z) (by kernel_rfl)) z ?_)))
   have ek := ((((((aW.st an z).st K z).st F z).st o z).st t z).st C z).st D z
   refine WL.store (v := ag hzr) (cells' := hzr) ty38 z z ek z (le_ z) z z ?_
   intro em c9 en
   refine wY (ya z) z (nl (th (rt (At.thenR ?_))))
   obtain ⟨rfl, rfl⟩ := tup2 h
   have eo : Stp [13, 18, 19] (Lg.O0 A) w c8 em := (tr_ (su_ av z) (tr_ (su_ am z) (tr_ (su_ ac z) (tr_ (su_ an z) (tr_ (su_ K z) (tr_ (su_ F z) (tr_ (su_ o z) (tr_ (su_ t z) (tr_ (su_ C z) (tr_ (su_ D z) (su_ c9 z)))))))))))
   exact At.res (.inl z) z (.cell z (en.runAg 0 hzr ty38 z z z) (.tmp z .nil)) ⟨sn, sn, z, (se_ eo z z), RowF.nil, RowF.nil, (fun _ e => absurd e not_nil)⟩
  ·refine WC.condF' z bh (sk (th (sq (rg (wY (yf fo38_0 z) z ?_)))))
   have bi := (ch.st C z).st D z
   refine wY (yl ty3 z z (bi.cell 0 _ z)) z (wY (yf fo38_1 z) z (wY (yl ty33 z z (bi.cell 1 _ z)) z (wY (yf fo38_1 z) z ?_)))
   have cn := ck.st D z
   refine wY (yl ty33 z z (cn.cell 1 _ z)) z (wY (Y.add_u z z) z (wY (yb (vals := [(0, vi d.Scale), (1, vu (d.Zero + l.Zero))]) (cells := [vi d.Scale, vu (d.Zero + l.Zero), vi 0, sn, vi 0, sn]) (fe_ z) (by kernel_rfl)) z (WL.alloc (O := c8) 20 hzr ty38 z z ?_)))
   intro j jy k1 G es
   refine WL.store (v := ag [vi d.Scale, vu (d.Zero + l.Zero), vi 0, sn, vi 0, sn]) (cells' := [vi d.Scale, vu (d.Zero + l.Zero), vi 0, sn, vi 0, sn]) ty38 z z es z (le_ z) z z ?_
   intro k2 H bj
   refine nl (th (sq (sq (rg (wY (yf fo38_2 z) z (wY (yf fo38_2 z) z ?_))))))
   have co := (bi.st G z).st H z
   refine wY (yL ty36 z z (co.cells 2 [vi d.Pos.Offset, (vl L M P)] z) z) z (wY (yf fo38_2 z) z ?_)
   have cq := (cn.st G z).st H z
   refine wY (yL ty36 z z (cq.cells 2 [vi l.Pos.Offset, (vl U V W)] z) z) z (wY (yb (vals := [(0, pt j 2), (1, ag [vi d.Pos.Offset, (vl L M P)]), (2, ag [vi l.Pos.Offset, (vl U V W)])]) (cells := [pt j 2, vi d.Pos.Offset, (vl L M P), vi l.Pos.Offset, (vl U V W)]) (fe_ z) (by kernel_rfl)) z (wY (yf fo38_3 z) z (wY (yf fo38_3 z) z (wY (yL ty36 z z (co.cells 4 [vi d.Neg.Offset, (vl Q S T)] z) z) z (wY (yf fo38_3 z) z (wY (yL ty36 z z (cq.cells 4 [vi l.Neg.Offset, (vl X Z aa)] z) z) z (wY (yb (vals := [(0, pt j 4), (1, ag [vi d.Neg.Offset, (vl Q S T)]), (2, ag [vi l.Neg.Offset, (vl X Z aa)])]) (cells := [pt j 4, vi d.Neg.Offset, (vl Q S T), vi l.Neg.Offset, (vl X Z aa)]) (fe_ z) (by kernel_rfl)) z (WL.buildLit (O := jy) (vals := [(0, ag [pt j 2, vi d.Pos.Offset, (vl L M P), vi l.Pos.Offset, (vl U V W)]), (1, ag [pt j 4, vi d.Neg.Offset, (vl Q S T), vi l.Neg.Offset, (vl X Z aa)])]) 21 [pt j 2, vi d.Pos.Offset, (vl L M P), vi l.Pos.Offset, (vl U V W), pt j 4, vi d.Neg.Offset, (vl Q S T), vi l.Neg.Offset, (vl X Z aa)] ty179 ty178 (by decide) (by decide) (fe_ z) (by kernel_rfl) z ?_))))))))
   intro m da ew E cr
   refine WL.yE (Y.lenv ty179 z) (show vi ((2 : Nat) : Int) = vi 2 from z) z (wY (ym z) z (nl (th (WC.block (WC.unroll 2 (sq (rg (WL.yE (Y.lss_i z z) (congrArg vB (by decide : decide ((0 : Int) < (2 : Int)) = true)) z (nl ?_)))))))))
   refine th (sq (WC.condT z (sk (th (sq ?_)))))
   obtain ⟨jz, h, cs⟩ := flow1 h
   refine WC.join (σ := (Int × List UInt64 × Own × Value)) (fun x w' => jz = .go (x.1, x.2.1) ∧ Stp [20, 22, 23, 24, 1001, 1002, 1003, 1004] da ew x.2.2.1 w' ∧ OwnSl 1006 Rep.u 33 x.2.2.1 w' x.2.2.2 x.2.1 ∧ Blk 20 x.2.2.1 w' j 38 [vi d.Scale, vu (d.Zero + l.Zero), vi x.1, x.2.2.2, vi 0, sn]) (fun x => [(4, pt ab 0), (15, pt j 0), (71, vl (some ⟨m, 0, none⟩) 2 2), (72, vi 2), (73, vi 0)]) ?_ ?_
   ·refine WC.block (sq (rg (WL.yE (Y.indexAddr ty179 ty178 z z z (by decide) (by decide)) (show (Value.pointer (some ⟨m, 0 + (0 : Int).toNat * 5, none⟩)) = .pointer (some ⟨m, 0, none⟩) from z) z (wY (yL ty178 z z (cr.cells 0 [pt j 2, vi d.Pos.Offset, (vl L M P), vi l.Pos.Offset, (vl U V W)] z) z) z (WL.alloc (O := da) 22 [Value.pointer none, vi 0, sn, vi 0, sn] ty178 z z ?_)))))
    intro bk jA k3 ad ex
    refine WL.store (v := ag [pt j 2, vi d.Pos.Offset, (vl L M P), vi l.Pos.Offset, (vl U V W)]) (cells' := [pt j 2, vi d.Pos.Offset, (vl L M P), vi l.Pos.Offset, (vl U V W)]) ty178 z z ex z (le_ z) z z ?_
    intro k4 ae aE
    refine nl (th (sq (rg (wY (yf fo178_1 z) z (wY (yL ty36 z z (aE.cells 1 [vi d.Pos.Offset, (vl L M P)] z) z) z (wY (yf fo178_2 z) z (wY (yL ty36 z z (aE.cells 3 [vi l.Pos.Offset, (vl U V W)] z) z) z ?_)))))))
    have ct := ((((((ci.st C z z z).st D z z z).st G z z z).st H z z z).st E z z z).st ad z z z).st ae z z z
    have cu := (((((cl.st D z z z).st G z z z).st H z z z).st E z z z).st ad z z z).st ae z z z
    obtain ⟨⟨af, l7⟩, eJ, h⟩ := bnd h
    refine WL.call (vals := [ag [vi d.Pos.Offset, (vl L M P)], ag [vi l.Pos.Offset, (vl U V W)]]) kok147 z z (c_fold_cover (A := fun _ => True) (a0 := d.Pos) (a1 := l.Pos) (ct.src.sl) (cu.src.sl) eJ) ?_
    rintro k5 k6 ⟨rfl, eK⟩
    obtain ⟨aJ, ko, kp, I⟩ := adoptE jA (fun k => 1) eK
    refine wY (ym z) z (wY (yx z z) z (wY (yx z z) z (wY (ya z) z (wY (ya z) z (nl (th (sq (sq (rg ?_)))))))))
    refine wY (ym z) z (wY (Y.gtr_i z z) z (nl (th ?_)))
    rcases cnd h with ⟨bl, h⟩ | ⟨bl, h⟩
    ·refine WC.condT' z bl (sq (rg (wY (yb (vals := []) (cells := hzr) (fe_ z) (by kernel_rfl)) z ?_)))
     have eX := ((((((((((((aW.st an z).st K z).st F z).st o z).st t z).st C z).st D z).st G z).st H z).st E z).st ad z).st ae z).st I z
     refine WL.store (v := ag hzr) (cells' := hzr) ty38 z z eX z (le_ z) z z ?_
     intro eY db eZ
     refine wY (ya z) z (nl (th (rt (At.thenR (At.inBlockR ?_)))))
     have h := outs1 h cs
     refine At.joinR (At.thenR (At.thenR (At.inBlockR (At.thenR ?_))))
     obtain ⟨rfl, rfl⟩ := tup2 h
     have e0 : Stp [13, 18, 19, 20, 22] (Lg.O0 A) w aJ eY := (tr_ (su_ av z) (tr_ (su_ am z) (tr_ (su_ ac z) (tr_ (su_ an z) (tr_ (su_ K z) (tr_ (su_ F z) (tr_ (su_ o z) (tr_ (su_ t z) (tr_ (su_ C z) (tr_ (su_ D z) (tr_ (su_ G z) (tr_ (su_ H z) (tr_ (su_ E z) (tr_ (su_ ad z) (tr_ (su_ ae z) (tr_ (su_ I z) (su_ db z)))))))))))))))))
     exact At.res (.inl z) z (.cell z (eZ.runAg 0 hzr ty38 z z z) (.tmp z .nil)) ⟨sn, sn, z, (se_ e0 z z), RowF.nil, RowF.nil, (fun _ e => absurd e not_nil)⟩
    ·refine WC.condF' z bl (sk (th (sq (sq (rg (wY (ym z) z (wY (Y.eql_i z z) z (nl (th ?_)))))))))
     rcases cnd h with ⟨bm, h⟩ | ⟨bm, h⟩
     ·refine WC.condT' z bm (WC.exit (At.thenX (At.inBlockHit ?_)))
      have e6 := (((bj.st E z).st ad z).st ae z).st I z
      exact At.join (σ := (Int × List UInt64 × Own × Value)) (0, [], aJ, sn) ⟨go2 h, (tr_ (su_ ad z) (tr_ (su_ ae z) (su_ I z))), (OwnSl.nil 1006 Rep.u 33), e6⟩ (.cons z (.cons z (.cons z (.cons z (.cons z .nil)))))
     ·refine WC.condF' z bm (sk (th (sq (WC.drawH [20, 23, 24] [0, 1, 2, 3, 4, 5, 6, 7, 8, 9, 10, 11] aJ 13 fmix z (by kernel_rfl) ?_))))
      intro e7 ao
      refine WD.y 0 z (by kernel_rfl) (fun _ _ _ => yf fo178_0 z) z (WD.y 1 z (by kernel_rfl) (fun k7 l8 dc => have e8 := aE.st I z; have e9 := e8.st ao z; have fa := e9.st dc z; yl ty177 z z (fa.cell 0 _ z)) z (WD.y 2 z (by kernel_rfl) (fun _ _ _ => yf fo178_0 z) z (WD.y 3 z (by kernel_rfl) (fun k8 l9 dd => have fc := aE.st I z; have fd := fc.st ao z; have fe := fd.st dd z; yl ty177 z z (fe.cell 0 _ z)) z (WD.y 4 z (by kernel_rfl) (fun _ _ _ => ym z) z (WD.y 5 z (by kernel_rfl) (fun _ _ _ => ym z) z (WD.y 7 z (by kernel_rfl) (fun _ _ _ => yn z) z (WD.y 8 z (by kernel_rfl) (fun _ _ _ => yf fo36_0 z) z ?_)))))))
      obtain ⟨jB, h, ff⟩ := bnd h
      refine WD.join (σ := (List UInt64 × Own × Value)) (f' := 3) [9, 8, 7, 6, 5, 4, 3, 2, 1, 0] (fun x O' w' => x.1 = jB ∧ Stp [20, 23, 24] aJ e7 x.2.1 w' ∧ Blk 20 x.2.1 w' j 38 [vi d.Scale, vu (d.Zero + l.Zero), vi af, sn, vi 0, sn] ∧ OwnSl 1001 Rep.u 33 x.2.1 w' x.2.2 x.1 ∧ x.2.1 = O') (fun x => [(4, pt ab 0), (15, pt j 0), (17, pt bk 0), (18, vi af), (71, vl (some ⟨m, 0, none⟩) 2 2), (72, vi 2), (73, vi 0), (93, pt j 2), (96, x.2.2)]) (fun cv => ?_) ?_
      ·refine WD.heavy2 6 9 z z (by kernel_rfl) ?_ ?_
       ·obtain ⟨jC, fg, h⟩ := bnd h
        refine WL.make (O := aJ) (R := Rep.u) (zx := (0 : UInt64)) 23 (by decide) ty34 ty33 z (by decide) (by decide) z z (fun _ _ => z) fg z ?_
        intro jD ma k9 aX fh
        refine nl (At.dq (su_ aX z) (WD.heavy 9 z (by kernel_rfl) ?_))
        have fn := (((((bj.st E z).st ad z).st ae z).st I z).st ao z).st aX z
        refine WL.store (v := vi af) (cells' := [vi d.Scale, vu (d.Zero + l.Zero), vi af, sn, vi 0, sn]) ty3 z z fn z (le_ z) z z ?_
        intro la aY fo
        refine nl (At.dq (su_ aY z) ?_)
        have fp := fh.st aY z z z
        obtain ⟨jE, aZ, fq⟩ := OwnSl.rlb 1001 rfl fp
        have fs := fo.st aZ z
        refine WD.own (su_ aZ z) (WD.perm _ [9, 8, 7, 6, 5, 4, 3, 2, 1, 0] (by kernel_rfl) ?_)
        exact cv (jC, jE, jD) _ _ _ ⟨some1 h, (tr_ (su_ aX z) (tr_ (su_ aY z) (su_ aZ z))), fs, fq, z⟩ (.cons z (.cons z (.cons z (.cons z (.cons z (.cons z (.cons z (.cons z (.cons z .nil)))))))))
       ·try simp only [Option.bind_assoc] at h
        try simp only [Option.bind_some] at h
        have fx := ((((bj.st E z).st ad z).st ae z).st I z).st ao z
        refine WL.store (v := vi af) (cells' := [vi d.Scale, vu (d.Zero + l.Zero), vi af, sn, vi 0, sn]) ty3 z z fx z (le_ z) z z ?_
        intro lb b0 fy
        refine nl (At.dq (su_ b0 z) (WD.heavy 6 z (by kernel_rfl) ?_))
        obtain ⟨jF, fz, h⟩ := bnd h
        refine WL.make (O := aJ) (R := Rep.u) (zx := (0 : UInt64)) 24 (by decide) ty34 ty33 z (by decide) (by decide) z z (fun _ _ => z) fz z ?_
        intro jG mb lc a2 fA
        refine nl (At.dq (su_ a2 z) ?_)
        obtain ⟨jH, a3, fB⟩ := OwnSl.rlb 1001 rfl fA
        have fD := (fy.st a2 z).st a3 z
        refine WD.own (su_ a3 z) (WD.perm _ [9, 8, 7, 6, 5, 4, 3, 2, 1, 0] (by kernel_rfl) ?_)
        exact cv (jF, jH, jG) _ _ _ ⟨some1 h, (tr_ (su_ b0 z) (tr_ (su_ a2 z) (su_ a3 z))), fD, fB, z⟩ (.cons z (.cons z (.cons z (.cons z (.cons z (.cons z (.cons z (.cons z (.cons z .nil)))))))))
      ·rintro ⟨bn, ca, jI⟩ _ ld ⟨rfl, aA, cw, bo, rfl⟩
       replace h := ff
       try dsimp only at h aA cw bo
       refine (show WD _ _ _ _ _ _ _ _ [(4, pt ab 0), (15, pt j 0), (17, pt bk 0), (18, vi af), (71, vl (some ⟨m, 0, none⟩) 2 2), (72, vi 2), (73, vi 0), (93, pt j 2), (96, jI)] _ _ from ?_)
       refine WD.y 10 z (by kernel_rfl) (fun _ _ _ => yn z) z (WD.y 11 z (by kernel_rfl) (fun _ _ _ => yf fo36_1 z) z (WD.phase [20] [0, 1, 2, 3, 4, 5, 6, 7, 8, 9, 10, 11, 12] (by kernel_rfl) (by kernel_rfl) (WD.heavy 12 z (by kernel_rfl) ?_)))
       have fF := h
       obtain ⟨aK, aL, aM, rfl⟩ := bo.shape
       have h := fF
       refine WL.store (v := (vl aK aL aM)) (cells' := [vi d.Scale, vu (d.Zero + l.Zero), vi af, (vl aK aL aM), vi 0, sn]) ty34 z z cw z (le_ z) z z ?_
       intro bp ax bq
       refine nl (At.dq (su_ ax z) (WD.done_ (by kernel_rfl) (th (sq (rg (wY (yf fo178_0 z) z ?_))))))
       have aS := (((aE.st I z).st ao z).st aA z).st ax z
       refine wY (yl ty177 z z (aS.cell 0 _ z)) z (wY (yn z) z (wY (yf fo36_1 z) z (wY (yl ty34 z z (bq.cell 3 _ z)) z ?_)))
       have cx := bo.st ax z z z
       refine wY (Y.len ty34 z cx.src.sl) z (wY (ym z) z (nl (th ?_)))
       obtain ⟨jJ, h, fJ⟩ := bnd h
       refine WC.join (σ := (List UInt64 × Own)) (fun x w' => x.1 = jJ ∧ Stp [1001, 1002, 1003] ca bp x.2 w' ∧ OwnSl 1004 Rep.u 33 x.2 w' (vl aK aL aM) x.1) (fun x => [(4, pt ab 0), (15, pt j 0), (71, vl (some ⟨m, 0, none⟩) 2 2), (72, vi 2), (73, vi 0)]) ?_ ?_
       ·refine WC.block ?_
        obtain ⟨de, h, fK⟩ := flow1 h
        obtain ⟨df, h⟩ := loop_some h
        refine WC.joinB 2 (σ := (List UInt64 × Own)) (fun x w' => de = .go x.1 ∧ Stp [1001, 1002] ca bp x.2 w' ∧ OwnSl 1003 Rep.u 33 x.2 w' (vl aK aL aM) x.1) (fun x => [(4, pt ab 0), (15, pt j 0), (71, vl (some ⟨m, 0, none⟩) 2 2), (72, vi 2), (73, vi 0)]) ?_ ?_
        ·obtain ⟨jK, dg, fL⟩ := OwnSl.rlb 1002 rfl cx
         refine WC.loop (σ := (List UInt64 × Int × Own)) (fun x k w' => loopN k (fold_Merge_lp1 d l af bn) (x.1, x.2.1) = some de ∧ Stp [1001, 1002] ca bp x.2.2 w' ∧ OwnSl 1002 Rep.u 33 x.2.2 w' (vl aK aL aM) x.1) (fun x => [(4, pt ab 0), (15, pt j 0), (17, pt bk 0), (18, vi af), (71, vl (some ⟨m, 0, none⟩) 2 2), (72, vi 2), (73, vi 0), (106, vi (bn.length : Int)), (107, vi x.2.1)]) (bn, 0, jK) df (.cons z (.cons z (.cons z (.cons z (.cons z (.cons z (.cons z (.cons z (.cons z .nil))))))))) ⟨h, (su_ dg z), fL⟩ ?_
         rintro ⟨jL, br, dh⟩ df lf ⟨h, ah, bs⟩
         obtain ⟨jM, mc, rfl, h, cy⟩ := rnd1 h
         unfold fold_Merge_lp1 at h
         try dsimp only at h ah bs
         refine (show WC _ _ _ _ [(4, pt ab 0), (15, pt j 0), (17, pt bk 0), (18, vi af), (71, vl (some ⟨m, 0, none⟩) 2 2), (72, vi 2), (73, vi 0), (106, vi (bn.length : Int)), (107, vi br)] _ from ?_)
         refine sq (rg (wY (Y.lss_i z z) z (nl (th (sq ?_)))))
         rcases cnd h with ⟨bt, h⟩ | ⟨bt, h⟩
         ·refine WC.condT' z bt (sk (th (sq (WC.block (sq (rg (wY (ym z) z (wY (ya z) z (nl ?_)))))))))
          refine th (WC.drawH [] [0, 1, 2, 3, 4, 5, 6, 7, 8, 9, 10, 11, 12, 13, 14, 15, 16, 17, 18, 19] dh 21 fmix z (by kernel_rfl) ?_)
          intro lg ap
          refine WD.y 0 z (by kernel_rfl) (fun _ _ _ => yf fo178_0 z) z (WD.y 1 z (by kernel_rfl) (fun lh md di => have fN := aS.st ah z; have fO := fN.st ap z; have fP := fO.st di z; yl ty177 z z (fP.cell 0 _ z)) z (WD.y 2 z (by kernel_rfl) (fun _ _ _ => yn z) z (WD.y 3 z (by kernel_rfl) (fun _ _ _ => yf fo36_1 z) z (WD.y 4 z (by kernel_rfl) (fun li me dj => have fQ := bq.st ah z; have fR := fQ.st ap z; have fT := fR.st dj z; yl ty34 z z (fT.cell 3 _ z)) z (WD.y 5 z (by kernel_rfl) (fun _ _ _ => ym z) z (WD.y 6 z (by kernel_rfl) (fun _ _ _ => yf fo178_1 z) z (WD.y 7 z (by kernel_rfl) (fun lj mf dk => have fU := aS.st ah z; have fV := fU.st ap z; have fY := fV.st dk z; yL ty36 z z (fY.cells 1 [vi d.Pos.Offset, (vl L M P)] z) z) z (WD.y 8 z (by kernel_rfl) (fun _ _ _ => ym z) z (WD.y 9 z (by kernel_rfl) (fun _ _ _ => ym z) z ?_)))))))))
          refine WD.y 10 z (by kernel_rfl) (fun _ _ _ => Y.add_i z z) z (WD.y 12 z (by kernel_rfl) (fun _ _ _ => yf fo178_2 z) z (WD.y 13 z (by kernel_rfl) (fun ll mg dl => have f0 := aS.st ah z; have f1 := f0.st ap z; have f2 := f1.st dl z; yL ty36 z z (f2.cells 3 [vi l.Pos.Offset, (vl U V W)] z) z) z (WD.y 14 z (by kernel_rfl) (fun _ _ _ => ym z) z (WD.y 15 z (by kernel_rfl) (fun _ _ _ => ym z) z (WD.y 16 z (by kernel_rfl) (fun _ _ _ => Y.add_i z z) z (WD.heavy 11 z (by kernel_rfl) ?_))))))
          have f8 := (((((ct.st I z z z).st ao z z z).st aA z z z).st ax z z z).st ah z z z).st ap z z z
          obtain ⟨mh, f9, h⟩ := bnd h
          refine WL.call (vals := [ag [vi d.Pos.Offset, (vl L M P)], vi (w64 (af + br))]) kok148 z z (c_hist_At (A := fun _ => True) (a0 := d.Pos) (f8.src.sl) f9) ?_
          rintro lm ln ⟨rfl, ga⟩
          obtain ⟨jN, kq, kr, aF⟩ := adoptE dh (fun k => 1) ga
          refine nl (At.dq (su_ aF z) (WD.heavy 17 z (by kernel_rfl) ?_))
          have gh := ((((((cu.st I z z z).st ao z z z).st aA z z z).st ax z z z).st ah z z z).st ap z z z).st aF z z z
          obtain ⟨mi, gi, h⟩ := bnd h
          refine WL.call (vals := [ag [vi l.Pos.Offset, (vl U V W)], vi (w64 (af + br))]) kok148 z z (c_hist_At (A := fun _ => True) (a0 := l.Pos) (gh.src.sl) gi) ?_
          rintro lo lp ⟨rfl, gj⟩
          obtain ⟨jO, ks, kt, a4⟩ := adoptE jN (fun k => 1) gj
          refine nl (At.dq (su_ a4 z) (WD.y 18 z (by kernel_rfl) (fun _ _ _ => Y.add_u z z) z ?_))
          obtain ⟨jP, gk, h⟩ := bnd h
          have bu := ((bs.st ap z z z).st aF z z z).st a4 z z z
          obtain ⟨mj, kR, lq, bw, gn, gp, bx, dm⟩ := OwnSl.at bu gk
          obtain rfl := dm
          replace bx : CellsAt _ _ _ [vu jP] := bx
          have kS := CAt.own bu bw bx
          refine WD.y 19 z (by kernel_rfl) (fun _ _ _ => Y.indexAddr ty34 ty33 z bw z gn gp) z (WD.phase [1002] [0, 1, 2, 3, 4, 5, 6, 7, 8, 9, 10, 11, 12, 13, 14, 15, 16, 17, 18, 19, 20] (by kernel_rfl) (by kernel_rfl) (WD.heavy 20 z (by kernel_rfl) ?_))
          obtain ⟨ml, gq, h⟩ := lt1 h
          refine WL.ren 128 z (congrArg vu gq.symm) ?_
          obtain ⟨gr, dn, h⟩ := bnd h
          refine WL.storeOwn (by decide) ty33 z z z bu bw dn ?_
          intro lr b1 gs
          refine nl (At.dq (su_ b1 z) (WD.done_ (by kernel_rfl) (At.inBlock (th (rg (wY (Y.add_i z z) z (wY (ym z) z (nl ?_))))))))
          exact At.round (gr, w64 (br + 1), jO) jM (Nat.lt_succ_self _) ⟨next1 h cy, (tr_ (su_ ah z) (tr_ (su_ ap z) (tr_ (su_ aF z) (tr_ (su_ a4 z) (su_ b1 z))))), gs⟩ (.cons z (.cons z (.cons z (.cons z (.cons z (.cons z (.cons z (.cons z (.cons z .nil)))))))))
         ·refine WC.condF' z bt (WC.exit (At.thenX (At.loopX ?_)))
          obtain ⟨jQ, dp, gt⟩ := OwnSl.rlb 1003 rfl bs
          exact At.hitB (σ := (List UInt64 × Own)) (jL, jQ) ⟨brk1 h cy, (tr_ (su_ ah z) (su_ dp z)), gt⟩ (.cons z (.cons z (.cons z (.cons z (.cons z .nil)))))
        ·rintro ⟨jR, mm⟩ ls ⟨rfl, b2, cz⟩
         replace h := flowK_go fK
         try dsimp only at h b2 cz
         refine (show At _ _ _ [(4, pt ab 0), (15, pt j 0), (71, vl (some ⟨m, 0, none⟩) 2 2), (72, vi 2), (73, vi 0)] _ from ?_)
         refine At.inBlockHit ?_
         obtain ⟨jS, dr, gu⟩ := OwnSl.rlb 1004 rfl cz
         exact At.join (σ := (List UInt64 × Own)) (jR, jS) ⟨some1 h, (tr_ (su_ b2 z) (su_ dr z)), gu⟩ (.cons z (.cons z (.cons z (.cons z (.cons z .nil)))))
       ·rintro ⟨jT, mn⟩ lu ⟨rfl, a5, cA⟩
        replace h := fJ
        try dsimp only at h a5 cA
        refine (show At _ _ _ [(4, pt ab 0), (15, pt j 0), (71, vl (some ⟨m, 0, none⟩) 2 2), (72, vi 2), (73, vi 0)] _ from ?_)
        refine At.inBlock ?_
        obtain ⟨jU, b3, gw⟩ := OwnSl.rlb 1006 rfl cA
        have gB := (bq.st a5 z).st b3 z
        exact At.join (σ := (Int × List UInt64 × Own × Value)) (af, jT, jU, (vl aK aL aM)) ⟨go2 h, (tr_ (su_ ad z) (tr_ (su_ ae z) (tr_ (su_ I z) (tr_ (su_ ao z) (tr_ (su_ aA z) (tr_ (su_ ax z) (tr_ (su_ a5 z) (su_ b3 z)))))))), gw, gB⟩ (.cons z (.cons z (.cons z (.cons z (.cons z .nil)))))
   ·rintro ⟨az, mo, ds, aN⟩ gC ⟨rfl, aq, cC, aT⟩
    replace h := flowK_go cs
    try dsimp only at h aq cC aT
    refine (show At _ _ _ [(4, pt ab 0), (15, pt j 0), (71, vl (some ⟨m, 0, none⟩) 2 2), (72, vi 2), (73, vi 0)] _ from ?_)
    refine th (rg (WL.yE (Y.add_i z z) (congrArg vi (by decide : w64 (0 + 1) = 1)) z (wY (ym z) z (nl (At.again (sq (rg (WL.yE (Y.lss_i z z) (congrArg vB (by decide : decide ((1 : Int) < (2 : Int)) = true)) z (nl ?_)))))))))
    refine th (sq (WC.condT z (sk (th (sq ?_)))))
    obtain ⟨jV, h, cD⟩ := flow1 h
    refine WC.join (σ := (Int × List UInt64 × Own × Value)) (fun x w' => jV = .go (x.1, x.2.1) ∧ Stp [20, 25, 26, 27, 1008, 1009, 1010, 1011] ds gC x.2.2.1 w' ∧ OwnSl 1013 Rep.u 33 x.2.2.1 w' x.2.2.2 x.2.1 ∧ Blk 20 x.2.2.1 w' j 38 [vi d.Scale, vu (d.Zero + l.Zero), vi az, aN, vi x.1, x.2.2.2]) (fun x => [(4, pt ab 0), (15, pt j 0), (71, vl (some ⟨m, 0, none⟩) 2 2), (72, vi 2), (73, vi 1)]) ?_ ?_
    ·refine WC.block (sq (rg (WL.yE (Y.indexAddr ty179 ty178 z z z (by decide) (by decide)) (show (Value.pointer (some ⟨m, 0 + (1 : Int).toNat * 5, none⟩)) = .pointer (some ⟨m, 5, none⟩) from z) z ?_)))
     have gE := cr.st aq z
     refine wY (yL ty178 z z (gE.cells 5 [pt j 4, vi d.Neg.Offset, (vl Q S T), vi l.Neg.Offset, (vl X Z aa)] z) z) z (WL.alloc (O := ds) 25 [Value.pointer none, vi 0, sn, vi 0, sn] ty178 z z ?_)
     intro bz jW lv ai gG
     refine WL.store (v := ag [pt j 4, vi d.Neg.Offset, (vl Q S T), vi l.Neg.Offset, (vl X Z aa)]) (cells' := [pt j 4, vi d.Neg.Offset, (vl Q S T), vi l.Neg.Offset, (vl X Z aa)]) ty178 z z gG z (le_ z) z z ?_
     intro lw aj aG
     refine nl (th (sq (rg (wY (yf fo178_1 z) z (wY (yL ty36 z z (aG.cells 1 [vi d.Neg.Offset, (vl Q S T)] z) z) z (wY (yf fo178_2 z) z (wY (yL ty36 z z (aG.cells 3 [vi l.Neg.Offset, (vl X Z aa)] z) z) z ?_)))))))
     have cE := (((((((cj.st C z z z).st D z z z).st G z z z).st H z z z).st E z z z).st aq z z z).st ai z z z).st aj z z z
     have cF := ((((((cm.st D z z z).st G z z z).st H z z z).st E z z z).st aq z z z).st ai z z z).st aj z z z
     obtain ⟨⟨ak, mp⟩, gX, h⟩ := bnd h
     refine WL.call (vals := [ag [vi d.Neg.Offset, (vl Q S T)], ag [vi l.Neg.Offset, (vl X Z aa)]]) kok147 z z (c_fold_cover (A := fun _ => True) (a0 := d.Neg) (a1 := l.Neg) (cE.src.sl) (cF.src.sl) gX) ?_
     rintro lx ly ⟨rfl, gY⟩
     obtain ⟨aO, ku, kv, J⟩ := adoptE jW (fun k => 1) gY
     refine wY (ym z) z (wY (yx z z) z (wY (yx z z) z (wY (ya z) z (wY (ya z) z (nl (th (sq (sq (rg ?_)))))))))
     refine wY (ym z) z (wY (Y.gtr_i z z) z (nl (th ?_)))
     rcases cnd h with ⟨bA, h⟩ | ⟨bA, h⟩
     ·refine WC.condT' z bA (sq (rg (wY (yb (vals := []) (cells := hzr) (fe_ z) (by kernel_rfl)) z ?_)))
      have hd := (((((((((((((aW.st an z).st K z).st F z).st o z).st t z).st C z).st D z).st G z).st H z).st E z).st aq z).st ai z).st aj z).st J z
      refine WL.store (v := ag hzr) (cells' := hzr) ty38 z z hd z (le_ z) z z ?_
      intro he dt hf
      refine wY (ya z) z (nl (th (rt (At.thenR (At.inBlockR ?_)))))
      have h := outs1 h cD
      refine At.joinR (At.thenR (At.thenR (At.inBlockR (At.thenR ?_))))
      obtain ⟨rfl, rfl⟩ := tup2 h
      have hg : Stp [13, 18, 19, 20, 22, 23, 24, 25, 1001, 1002, 1003, 1004] (Lg.O0 A) w aO he := (tr_ (su_ av z) (tr_ (su_ am z) (tr_ (su_ ac z) (tr_ (su_ an z) (tr_ (su_ K z) (tr_ (su_ F z) (tr_ (su_ o z) (tr_ (su_ t z) (tr_ (su_ C z) (tr_ (su_ D z) (tr_ (su_ G z) (tr_ (su_ H z) (tr_ (su_ E z) (tr_ (su_ aq z) (tr_ (su_ ai z) (tr_ (su_ aj z) (tr_ (su_ J z) (su_ dt z))))))))))))))))))
      exact At.res (.inl z) z (.cell z (hf.runAg 0 hzr ty38 z z z) (.tmp z .nil)) ⟨sn, sn, z, (se_ hg z z), RowF.nil, RowF.nil, (fun _ e => absurd e not_nil)⟩
     ·refine WC.condF' z bA (sk (th (sq (sq (rg (wY (ym z) z (wY (Y.eql_i z z) z (nl (th ?_)))))))))
      rcases cnd h with ⟨bB, h⟩ | ⟨bB, h⟩
      ·refine WC.condT' z bB (WC.exit (At.thenX (At.inBlockHit ?_)))
       have hj := ((aT.st ai z).st aj z).st J z
       exact At.join (σ := (Int × List UInt64 × Own × Value)) (0, [], aO, sn) ⟨go2 h, (tr_ (su_ ai z) (tr_ (su_ aj z) (su_ J z))), (OwnSl.nil 1013 Rep.u 33), hj⟩ (.cons z (.cons z (.cons z (.cons z (.cons z .nil)))))
      ·refine WC.condF' z bB (sk (th (sq (WC.drawH [20, 26, 27] [0, 1, 2, 3, 4, 5, 6, 7, 8, 9, 10, 11] aO 13 fmix z (by kernel_rfl) ?_))))
       intro hm ar
       refine WD.y 0 z (by kernel_rfl) (fun _ _ _ => yf fo178_0 z) z (WD.y 1 z (by kernel_rfl) (fun lA mq du => have hn := aG.st J z; have ho := hn.st ar z; have hp := ho.st du z; yl ty177 z z (hp.cell 0 _ z)) z (WD.y 2 z (by kernel_rfl) (fun _ _ _ => yf fo178_0 z) z (WD.y 3 z (by kernel_rfl) (fun lB mr dw => have hq := aG.st J z; have ht := hq.st ar z; have hu := ht.st dw z; yl ty177 z z (hu.cell 0 _ z)) z (WD.y 4 z (by kernel_rfl) (fun _ _ _ => ym z) z (WD.y 5 z (by kernel_rfl) (fun _ _ _ => ym z) z (WD.y 7 z (by kernel_rfl) (fun _ _ _ => yn z) z (WD.y 8 z (by kernel_rfl) (fun _ _ _ => yf fo36_0 z) z ?_)))))))
       obtain ⟨jX, h, hv⟩ := bnd h
       refine WD.join (σ := (List UInt64 × Own × Value)) (f' := 3) [9, 8, 7, 6, 5, 4, 3, 2, 1, 0] (fun x O' w' => x.1 = jX ∧ Stp [20, 26, 27] aO hm x.2.1 w' ∧ Blk 20 x.2.1 w' j 38 [vi d.Scale, vu (d.Zero + l.Zero), vi az, aN, vi ak, sn] ∧ OwnSl 1008 Rep.u 33 x.2.1 w' x.2.2 x.1 ∧ x.2.1 = O') (fun x => [(4, pt ab 0), (15, pt j 0), (17, pt bz 0), (18, vi ak), (71, vl (some ⟨m, 0, none⟩) 2 2), (72, vi 2), (73, vi 1), (93, pt j 4), (96, x.2.2)]) (fun cG => ?_) ?_
       ·refine WD.heavy2 6 9 z z (by kernel_rfl) ?_ ?_
        ·obtain ⟨jY, hw, h⟩ := bnd h
         refine WL.make (O := aO) (R := Rep.u) (zx := (0 : UInt64)) 26 (by decide) ty34 ty33 z (by decide) (by decide) z z (fun _ _ => z) hw z ?_
         intro jZ ms lC a6 hx
         refine nl (At.dq (su_ a6 z) (WD.heavy 9 z (by kernel_rfl) ?_))
         have hE := ((((aT.st ai z).st aj z).st J z).st ar z).st a6 z
         refine WL.store (v := vi ak) (cells' := [vi d.Scale, vu (d.Zero + l.Zero), vi az, aN, vi ak, sn]) ty3 z z hE z (le_ z) z z ?_
         intro lD a7 hF
         refine nl (At.dq (su_ a7 z) ?_)
         have hG := hx.st a7 z z z
         obtain ⟨j0, a8, hH⟩ := OwnSl.rlb 1008 rfl hG
         have hI := hF.st a8 z
         refine WD.own (su_ a8 z) (WD.perm _ [9, 8, 7, 6, 5, 4, 3, 2, 1, 0] (by kernel_rfl) ?_)
         exact cG (jY, j0, jZ) _ _ _ ⟨some1 h, (tr_ (su_ a6 z) (tr_ (su_ a7 z) (su_ a8 z))), hI, hH, z⟩ (.cons z (.cons z (.cons z (.cons z (.cons z (.cons z (.cons z (.cons z (.cons z .nil)))))))))
        ·try simp only [Option.bind_assoc] at h
         try simp only [Option.bind_some] at h
         have hM := (((aT.st ai z).st aj z).st J z).st ar z
         refine WL.store (v := vi ak) (cells' := [vi d.Scale, vu (d.Zero + l.Zero), vi az, aN, vi ak, sn]) ty3 z z hM z (le_ z) z z ?_
         intro lE b4 hN
         refine nl (At.dq (su_ b4 z) (WD.heavy 6 z (by kernel_rfl) ?_))
         obtain ⟨j1, hO, h⟩ := bnd h
         refine WL.make (O := aO) (R := Rep.u) (zx := (0 : UInt64)) 27 (by decide) ty34 ty33 z (by decide) (by decide) z z (fun _ _ => z) hO z ?_
         intro j2 mu lF a9 hP
         refine nl (At.dq (su_ a9 z) ?_)
         obtain ⟨j3, ba, hQ⟩ := OwnSl.rlb 1008 rfl hP
         have hS := (hN.st a9 z).st ba z
         refine WD.own (su_ ba z) (WD.perm _ [9, 8, 7, 6, 5, 4, 3, 2, 1, 0] (by kernel_rfl) ?_)
         exact cG (j1, j3, j2) _ _ _ ⟨some1 h, (tr_ (su_ b4 z) (tr_ (su_ a9 z) (su_ ba z))), hS, hQ, z⟩ (.cons z (.cons z (.cons z (.cons z (.cons z (.cons z (.cons z (.cons z (.cons z .nil)))))))))
       ·rintro ⟨bC, cb, j4⟩ _ lG ⟨rfl, aC, cH, bD, rfl⟩
        replace h := hv
        try dsimp only at h aC cH bD
        refine (show WD _ _ _ _ _ _ _ _ [(4, pt ab 0), (15, pt j 0), (17, pt bz 0), (18, vi ak), (71, vl (some ⟨m, 0, none⟩) 2 2), (72, vi 2), (73, vi 1), (93, pt j 4), (96, j4)] _ _ from ?_)
        refine WD.y 10 z (by kernel_rfl) (fun _ _ _ => yn z) z (WD.y 11 z (by kernel_rfl) (fun _ _ _ => yf fo36_1 z) z (WD.phase [20] [0, 1, 2, 3, 4, 5, 6, 7, 8, 9, 10, 11, 12] (by kernel_rfl) (by kernel_rfl) (WD.heavy 12 z (by kernel_rfl) ?_)))
        have hT := h
        obtain ⟨aP, aQ, aR, rfl⟩ := bD.shape
        have h := hT
        refine WL.store (v := (vl aP aQ aR)) (cells' := [vi d.Scale, vu (d.Zero + l.Zero), vi az, aN, vi ak, (vl aP aQ aR)]) ty34 z z cH z (le_ z) z z ?_
        intro bE ay bF
        refine nl (At.dq (su_ ay z) (WD.done_ (by kernel_rfl) (th (sq (rg (wY (yf fo178_0 z) z ?_))))))
        have aU := (((aG.st J z).st ar z).st aC z).st ay z
        refine wY (yl ty177 z z (aU.cell 0 _ z)) z (wY (yn z) z (wY (yf fo36_1 z) z (wY (yl ty34 z z (bF.cell 5 _ z)) z ?_)))
        have cI := bD.st ay z z z
        refine wY (Y.len ty34 z cI.src.sl) z (wY (ym z) z (nl (th ?_)))
        obtain ⟨j5, h, hX⟩ := bnd h
        refine WC.join (σ := (List UInt64 × Own)) (fun x w' => x.1 = j5 ∧ Stp [1008, 1009, 1010] cb bE x.2 w' ∧ OwnSl 1011 Rep.u 33 x.2 w' (vl aP aQ aR) x.1) (fun x => [(4, pt ab 0), (15, pt j 0), (71, vl (some ⟨m, 0, none⟩) 2 2), (72, vi 2), (73, vi 1)]) ?_ ?_
        ·refine WC.block ?_
         obtain ⟨dx, h, hY⟩ := flow1 h
         obtain ⟨dy, h⟩ := loop_some h
         refine WC.joinB 2 (σ := (List UInt64 × Own)) (fun x w' => dx = .go x.1 ∧ Stp [1008, 1009] cb bE x.2 w' ∧ OwnSl 1010 Rep.u 33 x.2 w' (vl aP aQ aR) x.1) (fun x => [(4, pt ab 0), (15, pt j 0), (71, vl (some ⟨m, 0, none⟩) 2 2), (72, vi 2), (73, vi 1)]) ?_ ?_
         ·obtain ⟨j6, dz, hZ⟩ := OwnSl.rlb 1009 rfl cI
          refine WC.loop (σ := (List UInt64 × Int × Own)) (fun x k w' => loopN k (fold_Merge_lp2 d l ak bC) (x.1, x.2.1) = some dx ∧ Stp [1008, 1009] cb bE x.2.2 w' ∧ OwnSl 1009 Rep.u 33 x.2.2 w' (vl aP aQ aR) x.1) (fun x => [(4, pt ab 0), (15, pt j 0), (17, pt bz 0), (18, vi ak), (71, vl (some ⟨m, 0, none⟩) 2 2), (72, vi 2), (73, vi 1), (106, vi (bC.length : Int)), (107, vi x.2.1)]) (bC, 0, j6) dy (.cons z (.cons z (.cons z (.cons z (.cons z (.cons z (.cons z (.cons z (.cons z .nil))))))))) ⟨h, (su_ dz z), hZ⟩ ?_
          rintro ⟨j7, bG, dA⟩ dy lH ⟨h, al, bH⟩
          obtain ⟨j8, mv, rfl, h, cJ⟩ := rnd1 h
          unfold fold_Merge_lp2 at h
          try dsimp only at h al bH
          refine (show WC _ _ _ _ [(4, pt ab 0), (15, pt j 0), (17, pt bz 0), (18, vi ak), (71, vl (some ⟨m, 0, none⟩) 2 2), (72, vi 2), (73, vi 1), (106, vi (bC.length : Int)), (107, vi bG)] _ from ?_)
          refine sq (rg (wY (Y.lss_i z z) z (nl (th (sq ?_)))))
          rcases cnd h with ⟨bI, h⟩ | ⟨bI, h⟩
          ·refine WC.condT' z bI (sk (th (sq (WC.block (sq (rg (wY (ym z) z (wY (ya z) z (nl ?_)))))))))
           refine th (WC.drawH [] [0, 1, 2, 3, 4, 5, 6, 7, 8, 9, 10, 11, 12, 13, 14, 15, 16, 17, 18, 19] dA 21 fmix z (by kernel_rfl) ?_)
           intro lI au
           refine WD.y 0 z (by kernel_rfl) (fun _ _ _ => yf fo178_0 z) z (WD.y 1 z (by kernel_rfl) (fun lJ mw dB => have h0 := aU.st al z; have h1 := h0.st au z; have h2 := h1.st dB z; yl ty177 z z (h2.cell 0 _ z)) z (WD.y 2 z (by kernel_rfl) (fun _ _ _ => yn z) z (WD.y 3 z (by kernel_rfl) (fun _ _ _ => yf fo36_1 z) z (WD.y 4 z (by kernel_rfl) (fun lK mx dC => have h3 := bF.st al z; have h4 := h3.st au z; have h5 := h4.st dC z; yl ty34 z z (h5.cell 5 _ z)) z (WD.y 5 z (by kernel_rfl) (fun _ _ _ => ym z) z (WD.y 6 z (by kernel_rfl) (fun _ _ _ => yf fo178_1 z) z (WD.y 7 z (by kernel_rfl) (fun lL my dD => have h6 := aU.st al z; have h7 := h6.st au z; have h8 := h7.st dD z; yL ty36 z z (h8.cells 1 [vi d.Neg.Offset, (vl Q S T)] z) z) z (WD.y 8 z (by kernel_rfl) (fun _ _ _ => ym z) z (WD.y 9 z (by kernel_rfl) (fun _ _ _ => ym z) z ?_)))))))))
           refine WD.y 10 z (by kernel_rfl) (fun _ _ _ => Y.add_i z z) z (WD.y 12 z (by kernel_rfl) (fun _ _ _ => yf fo178_2 z) z (WD.y 13 z (by kernel_rfl) (fun lM mz dE => have h9 := aU.st al z; have ia := h9.st au z; have ib := ia.st dE z; yL ty36 z z (ib.cells 3 [vi l.Neg.Offset, (vl X Z aa)] z) z) z (WD.y 14 z (by kernel_rfl) (fun _ _ _ => ym z) z (WD.y 15 z (by kernel_rfl) (fun _ _ _ => ym z) z (WD.y 16 z (by kernel_rfl) (fun _ _ _ => Y.add_i z z) z (WD.heavy 11 z (by kernel_rfl) ?_))))))
           have ij := (((((cE.st J z z z).st ar z z z).st aC z z z).st ay z z z).st al z z z).st au z z z
           obtain ⟨mA, ik, h⟩ := bnd h
           refine WL.call (vals := [ag [vi d.Neg.Offset, (vl Q S T)], vi (w64 (ak + bG))]) kok148 z z (c_hist_At (A := fun _ => True) (a0 := d.Neg) (ij.src.sl) ik) ?_
           rintro lN lO ⟨rfl, il⟩
           obtain ⟨j9, kw, kz, aH⟩ := adoptE dA (fun k => 1) il
           refine nl (At.dq (su_ aH z) (WD.heavy 17 z (by kernel_rfl) ?_))
           have iu := ((((((cF.st J z z z).st ar z z z).st aC z z z).st ay z z z).st al z z z).st au z z z).st aH z z z
           obtain ⟨mB, iv, h⟩ := bnd h
           refine WL.call (vals := [ag [vi l.Neg.Offset, (vl X Z aa)], vi (w64 (ak + bG))]) kok148 z z (c_hist_At (A := fun _ => True) (a0 := l.Neg) (iu.src.sl) iv) ?_
           rintro lP lQ ⟨rfl, iw⟩
           obtain ⟨ka, kA, kB, bb⟩ := adoptE j9 (fun k => 1) iw
           refine nl (At.dq (su_ bb z) (WD.y 18 z (by kernel_rfl) (fun _ _ _ => Y.add_u z z) z ?_))
           obtain ⟨kb, iy, h⟩ := bnd h
           have bJ := ((bH.st au z z z).st aH z z z).st bb z z z
           obtain ⟨mC, kT, lR, bK, iB, iC, bL, dF⟩ := OwnSl.at bJ iy
           obtain rfl := dF
           replace bL : CellsAt _ _ _ [vu kb] := bL
           have kU := CAt.own bJ bK bL
           refine WD.y 19 z (by kernel_rfl) (fun _ _ _ => Y.indexAddr ty34 ty33 z bK z iB iC) z (WD.phase [1009] [0, 1, 2, 3, 4, 5, 6, 7, 8, 9, 10, 11, 12, 13, 14, 15, 16, 17, 18, 19, 20] (by kernel_rfl) (by kernel_rfl) (WD.heavy 20 z (by kernel_rfl) ?_))
           obtain ⟨mD, iD, h⟩ := lt1 h
           refine WL.ren 128 z (congrArg vu iD.symm) ?_
           obtain ⟨iE, dG, h⟩ := bnd h
           refine WL.storeOwn (by decide) ty33 z z z bJ bK dG ?_
           intro lS b5 iF
           refine nl (At.dq (su_ b5 z) (WD.done_ (by kernel_rfl) (At.inBlock (th (rg (wY (Y.add_i z z) z (wY (ym z) z (nl ?_))))))))
           exact At.round (iE, w64 (bG + 1), ka) j8 (Nat.lt_succ_self _) ⟨next1 h cJ, (tr_ (su_ al z) (tr_ (su_ au z) (tr_ (su_ aH z) (tr_ (su_ bb z) (su_ b5 z))))), iF⟩ (.cons z (.cons z (.cons z (.cons z (.cons z (.cons z (.cons z (.cons z (.cons z .nil)))))))))
          ·refine WC.condF' z bI (WC.exit (At.thenX (At.loopX ?_)))
           obtain ⟨kc, dH, iG⟩ := OwnSl.rlb 1010 rfl bH
           exact At.hitB (σ := (List UInt64 × Own)) (j7, kc) ⟨brk1 h cJ, (tr_ (su_ al z) (su_ dH z)), iG⟩ (.cons z (.cons z (.cons z (.cons z (.cons z .nil)))))
         ·rintro ⟨kd, mE⟩ lT ⟨rfl, b6, cK⟩
          replace h := flowK_go hY
          try dsimp only at h b6 cK
          refine (show At _ _ _ [(4, pt ab 0), (15, pt j 0), (71, vl (some ⟨m, 0, none⟩) 2 2), (72, vi 2), (73, vi 1)] _ from ?_)
          refine At.inBlockHit ?_
          obtain ⟨ke, dI, iH⟩ := OwnSl.rlb 1011 rfl cK
          exact At.join (σ := (List UInt64 × Own)) (kd, ke) ⟨some1 h, (tr_ (su_ b6 z) (su_ dI z)), iH⟩ (.cons z (.cons z (.cons z (.cons z (.cons z .nil)))))
        ·rintro ⟨kf, mF⟩ lU ⟨rfl, bc, cL⟩
         replace h := hX
         try dsimp only at h bc cL
         refine (show At _ _ _ [(4, pt ab 0), (15, pt j 0), (71, vl (some ⟨m, 0, none⟩) 2 2), (72, vi 2), (73, vi 1)] _ from ?_)
         refine At.inBlock ?_
         obtain ⟨kg, b7, iI⟩ := OwnSl.rlb 1013 rfl cL
         have iK := (bF.st bc z).st b7 z
         exact At.join (σ := (Int × List UInt64 × Own × Value)) (ak, kf, kg, (vl aP aQ aR)) ⟨go2 h, (tr_ (su_ ai z) (tr_ (su_ aj z) (tr_ (su_ J z) (tr_ (su_ ar z) (tr_ (su_ aC z) (tr_ (su_ ay z) (tr_ (su_ bc z) (su_ b7 z)))))))), iI, iK⟩ (.cons z (.cons z (.cons z (.cons z (.cons z .nil)))))
    ·rintro ⟨bM, mG, kh, ki⟩ lV ⟨rfl, aI, bO, cM⟩
     replace h := flowK_go cD
     try dsimp only at h aI bO cM
     refine (show At _ _ _ [(4, pt ab 0), (15, pt j 0), (71, vl (some ⟨m, 0, none⟩) 2 2), (72, vi 2), (73, vi 1)] _ from ?_)
     refine th (rg (WL.yE (Y.add_i z z) (congrArg vi (by decide : w64 (1 + 1) = 2)) z (wY (ym z) z (nl (At.again (sq (rg (WL.yE (Y.lss_i z z) (congrArg vB (by decide : decide ((2 : Int) < (2 : Int)) = false)) z (nl ?_)))))))))
     refine th (sq (WC.condF z (WC.exit (At.thenX (At.thenX (At.inBlockHit (th (sq (rg ?_)))))))))
     refine wY (yL ty38 z z (cM.cells 0 [vi d.Scale, vu (d.Zero + l.Zero), vi az, aN, vi bM, ki] z) z) z ?_
     have cN := cC.st aI z z z
     have iL := h
     obtain ⟨bP, bQ, bR, rfl⟩ := cN.shape
     have h := iL
     have iM := h
     obtain ⟨bS, bT, bU, rfl⟩ := bO.shape
     have h := iM
     have iY := (((((((((((aW.st an z).st K z).st F z).st o z).st t z).st C z).st D z).st G z).st H z).st E z).st aq z).st aI z
     refine WL.store (v := ag [vi d.Scale, vu (d.Zero + l.Zero), vi az, (vl bP bQ bR), vi bM, (vl bS bT bU)]) (cells' := [vi d.Scale, vu (d.Zero + l.Zero), vi az, (vl bP bQ bR), vi bM, (vl bS bT bU)]) ty38 z z iY z (le_ z) z z ?_
     intro iZ bd i0
     refine wY (ya z) z (nl (th (rt ?_)))
     obtain ⟨rfl, rfl⟩ := tup2 h
     have bW : Stp [13, 18, 19, 20, 22, 23, 24, 25, 26, 27, 1001, 1002, 1003, 1004, 1008, 1009, 1010, 1011] (Lg.O0 A) w kh iZ := (tr_ (su_ av z) (tr_ (su_ am z) (tr_ (su_ ac z) (tr_ (su_ an z) (tr_ (su_ K z) (tr_ (su_ F z) (tr_ (su_ o z) (tr_ (su_ t z) (tr_ (su_ C z) (tr_ (su_ D z) (tr_ (su_ G z) (tr_ (su_ H z) (tr_ (su_ E z) (tr_ (su_ aq z) (tr_ (su_ aI z) (su_ bd z))))))))))))))))
     have cO := cN.st bd z z z
     have cP := bO.st bd z z z
     exact At.res (.inl z) z (.cell z (i0.runAg 0 [vi d.Scale, vu (d.Zero + l.Zero), vi az, (vl bP bQ bR), vi bM, (vl bS bT bU)] ty38 z z z) (.tmp z .nil)) ⟨(vl bP bQ bR), (vl bS bT bU), z, (se_ bW z z), (OwnSl.outF cO bW low0 z), (OwnSl.outF cP bW low0 z), (ne_own cO cP z)⟩
theorem c_tocum_Together {A : Nat → Prop} {v0_3 : Value} {v0_5 : Value} {a0 : api_Hist} {v1_3 : Value} {v1_5 : Value} {a1 : api_Hist} {a2 : Int} {w : World} (hs0_3 : Sl Rep.u w A v0_3 a0.Pos.Counts) (hs0_5 : Sl Rep.u w A v0_5 a0.Neg.Counts) (hs1_3 : Sl Rep.u w A v1_3 a1.Pos.Counts) (hs1_5 : Sl Rep.u w A v1_5 a1.Neg.Counts) {r0 : api_Hist} {r1 : Bool} (h : tocum_Together a0 a1 a2 = some (r0, r1)) : Rets Tryz.prog 92 [ag (hl a0 v0_3 v0_5), ag (hl a1 v1_3 v1_5), vi a2] w (fun v w' => ∃ (a9 : Value) (ba : Value), v = Value.tuple (List.toArray [ag (hl r0 a9 ba), vB r1]) ∧ Ext w w' ∧ RowF Rep.u 33 w w' a9 r0.Pos.Counts ∧ RowF Rep.u 33 w w' ba r0.Neg.Counts ∧ (∀ k, ob a9 = some k → ob ba ≠ some k)) := by
 unfold tocum_Together at h
 refine Rets.enter Tryz.func92 z z ?_
 have bZ : Sl Rep.u w (imm (Lg.O0 A)) v0_3 a0.Pos.Counts := (Sl.start hs0_3)
 have b0 : Sl Rep.u w (imm (Lg.O0 A)) v0_5 a0.Neg.Counts := (Sl.start hs0_5)
 have fu : Sl Rep.u w (imm (Lg.O0 A)) v1_3 a1.Pos.Counts := (Sl.start hs1_3)
 have fv : Sl Rep.u w (imm (Lg.O0 A)) v1_5 a1.Neg.Counts := (Sl.start hs1_5)
 refine (show WC _ _ _ _ [(0, ag (hl a0 v0_3 v0_5)), (1, ag (hl a1 v1_3 v1_5)), (2, vi a2)] _ from ?_)
 refine sq (rg ?_)
 have fw := h
 obtain ⟨b1, b2, b3, rfl⟩ := bZ.shape
 have h := fw
 have fx := h
 obtain ⟨b4, b5, b6, rfl⟩ := b0.shape
 have h := fx
 refine WL.box (O := (Lg.O0 A)) 11 (hl a0 (vl b1 b2 b3) (vl b4 b5 b6)) z z z ?_
 intro g9 gk gP H fy
 have b7 := fu.i H z z
 have fz := h
 obtain ⟨b8, b9, ca, rfl⟩ := b7.shape
 have h := fz
 have cb := fv.i H z z
 have fA := h
 obtain ⟨cc, cd, ce, rfl⟩ := cb.shape
 have h := fA
 refine WL.box (O := gk) 12 (hl a1 (vl b8 b9 ca) (vl cc cd ce)) z z z ?_
 intro ha gl gQ G fB
 refine WL.alloc (O := gl) 13 hzr ty38 z z ?_
 intro bH gm gR E aC
 refine wY (ya z) z (nl (th (sq (rg ?_))))
 have fD := (fy.st G z).st E z
 refine wY (yL ty38 z z (fD.cells 0 (hl a0 (vl b1 b2 b3) (vl b4 b5 b6)) z) z) z ?_
 have fF := fB.st E z
 refine wY (yL ty38 z z (fF.cells 0 (hl a1 (vl b8 b9 ca) (vl cc cd ce)) z) z) z ?_
 have fI := ((bZ.i H z z).i G z z).i E z z
 have fL := ((b0.i H z z).i G z z).i E z z
 have fO := (b7.i G z z).i E z z
 have fQ := (cb.i G z z).i E z z
 obtain ⟨⟨ab, ac, hc⟩, fR, h⟩ := bnd h
 refine WL.call (vals := [ag (hl a0 (vl b1 b2 b3) (vl b4 b5 b6)), ag (hl a1 (vl b8 b9 ca) (vl cc cd ce))]) kok126 z z (c_fold_Level (A := fun _ => True) (a0 := a0) (a1 := a1) (Sl.all fI) (Sl.all fL) (Sl.all fO) (Sl.all fQ) fR) ?_
 rintro gU aD ⟨a5, bI, cf, fs, rfl, fT, gn, gp, gq, gr, gs, gt, gu, gw, gz, gB⟩
 obtain ⟨a6, gC, ak, I⟩ := adoptE gm (fun k => if ob a5 = some k then 14 else if ob bI = some k then 15 else if ob cf = some k then 16 else if ob fs = some k then 17 else 1) fT
 have fU : OwnSl 14 Rep.u 33 a6 aD a5 ab.Pos.Counts := RowF.adopt 14 Flat.u gn ak (fun k hk => if_pos hk)
 have fV : OwnSl 15 Rep.u 33 a6 aD bI ab.Neg.Counts := RowF.adopt 15 Flat.u gp ak (fun k hk => (if_neg (fun (e : ob a5 = some k) => gs k e hk)).trans (if_pos hk))
 have fY : OwnSl 16 Rep.u 33 a6 aD cf ac.Pos.Counts := RowF.adopt 16 Flat.u gq ak (fun k hk => (if_neg (fun (e : ob a5 = some k) => gt k e hk)).trans ((if_neg (fun (e : ob bI = some k) => gu k e hk)).trans (if_pos hk)))
 have f0 : OwnSl 17 Rep.u 33 a6 aD fs ac.Neg.Counts := RowF.adopt 17 Flat.u gr ak (fun k hk => (if_neg (fun (e : ob a5 = some k) => gw k e hk)).trans ((if_neg (fun (e : ob bI = some k) => gz k e hk)).trans ((if_neg (fun (e : ob cf = some k) => gB k e hk)).trans (if_pos hk))))
 refine wY (ym z) z (wY (yx z z) z (wY (yx z z) z (wY (yx z z) z (WL.alloc (O := a6) 18 hzr ty38 z z ?_))))
 intro a7 gE gV D f1
 refine WL.alloc (O := gE) 19 hzr ty38 z z ?_
 intro a8 ft gW t f2
 have bJ := (fU.st D z z z).st t z z z
 have cv := h
 obtain ⟨bb, bc, bd, rfl⟩ := bJ.shape
 have h := cv
 have bK := (fV.st D z z z).st t z z z
 have cx := h
 obtain ⟨bf, bg, bh, rfl⟩ := bK.shape
 have h := cx
 have cy := f1.st t z
 refine WL.store (v := ag (hl ab (vl bb bc bd) (vl bf bg bh))) (cells' := (hl ab (vl bb bc bd) (vl bf bg bh))) ty38 z z cy z (le_ z) z z ?_
 intro gG l cz
 have bL := ((fY.st D z z z).st t z z z).st l z z z
 have cD := h
 obtain ⟨bi, bj, bk, rfl⟩ := bL.shape
 have h := cD
 have bM := ((f0.st D z z z).st t z z z).st l z z z
 have cG := h
 obtain ⟨bl, bm, bn, rfl⟩ := bM.shape
 have h := cG
 have cH := f2.st l z
 refine WL.store (v := ag (hl ac (vl bi bj bk) (vl bl bm bn))) (cells' := (hl ac (vl bi bj bk) (vl bl bm bn))) ty38 z z cH z (le_ z) z z ?_
 intro cI m cJ
 refine wY (ya z) z (nl (th (sq (sq (rg (wY (ym z) z (wY (Y.neq_i z z) z (nl (th ?_)))))))))
 rcases cnd h with ⟨aE, h⟩ | ⟨aE, h⟩
 ·refine WC.condT' z aE (sq (rg (wY (yb (vals := []) (cells := hzr) (fe_ z) (by kernel_rfl)) z ?_)))
  have cO := ((((aC.st I z).st D z).st t z).st l z).st m z
  refine WL.store (v := ag hzr) (cells' := hzr) ty38 z z cO z (le_ z) z z ?_
  intro cP cg cQ
  refine wY (ya z) z (nl (th (rt (At.thenR ?_))))
  obtain ⟨rfl, rfl⟩ := tup2 h
  have cR : Stp [13, 18, 19] (Lg.O0 A) w ft cP := (tr_ (su_ H z) (tr_ (su_ G z) (tr_ (su_ E z) (tr_ (su_ I z) (tr_ (su_ D z) (tr_ (su_ t z) (tr_ (su_ l z) (tr_ (su_ m z) (su_ cg z)))))))))
  exact At.res (.inl z) z (.cell z (cQ.runAg 0 hzr ty38 z z z) (.tmp z .nil)) ⟨sn, sn, z, (se_ cR z z), RowF.nil, RowF.nil, (fun _ e => absurd e not_nil)⟩
 ·refine WC.condF' z aE (sk (th (WC.block ?_)))
  obtain ⟨f3, h, aF⟩ := flow1 h
  obtain ⟨ch, h⟩ := loop_some h
  have cT := (bJ.st l z z z).st m z z z
  obtain ⟨gX, L, cU⟩ := OwnSl.rlb 1001 rfl cT
  have cX := ((bK.st l z z z).st m z z z).st L z z z
  obtain ⟨gY, M, cY⟩ := OwnSl.rlb 1002 rfl cX
  have c1 := ((bL.st m z z z).st L z z z).st M z z z
  obtain ⟨gZ, P, c2⟩ := OwnSl.rlb 1003 rfl c1
  have c6 := (((bM.st m z z z).st L z z z).st M z z z).st P z z z
  obtain ⟨f4, Q, c7⟩ := OwnSl.rlb 1004 rfl c6
  have da := ((cU.st M z z z).st P z z z).st Q z z z
  have dc := (cY.st P z z z).st Q z z z
  have dh := ((((cz.st m z).st L z).st M z).st P z).st Q z
  have di := c2.st Q z z z
  have dm := (((cJ.st L z).st M z).st P z).st Q z
  refine WC.loop (σ := (Int × UInt64 × Int × List UInt64 × Int × List UInt64 × Int × UInt64 × Int × List UInt64 × Int × List UInt64 × Own × Value × Value × Value × Value)) (fun x k w' => loopN k (tocum_Together_lp1 a2) (x.1, x.2.1, x.2.2.1, x.2.2.2.1, x.2.2.2.2.1, x.2.2.2.2.2.1, x.2.2.2.2.2.2.1, x.2.2.2.2.2.2.2.1, x.2.2.2.2.2.2.2.2.1, x.2.2.2.2.2.2.2.2.2.1, x.2.2.2.2.2.2.2.2.2.2.1, x.2.2.2.2.2.2.2.2.2.2.2.1) = some f3 ∧ Stp [14, 15, 16, 17, 18, 19, 22, 23, 24, 25, 26] ft cI x.2.2.2.2.2.2.2.2.2.2.2.2.1 w' ∧ OwnSl 1001 Rep.u 33 x.2.2.2.2.2.2.2.2.2.2.2.2.1 w' x.2.2.2.2.2.2.2.2.2.2.2.2.2.1 x.2.2.2.1 ∧ OwnSl 1002 Rep.u 33 x.2.2.2.2.2.2.2.2.2.2.2.2.1 w' x.2.2.2.2.2.2.2.2.2.2.2.2.2.2.1 x.2.2.2.2.2.1 ∧ Blk 18 x.2.2.2.2.2.2.2.2.2.2.2.2.1 w' a7 38 [vi x.1, vu x.2.1, vi x.2.2.1, x.2.2.2.2.2.2.2.2.2.2.2.2.2.1, vi x.2.2.2.2.1, x.2.2.2.2.2.2.2.2.2.2.2.2.2.2.1] ∧ OwnSl 1003 Rep.u 33 x.2.2.2.2.2.2.2.2.2.2.2.2.1 w' x.2.2.2.2.2.2.2.2.2.2.2.2.2.2.2.1 x.2.2.2.2.2.2.2.2.2.1 ∧ OwnSl 1004 Rep.u 33 x.2.2.2.2.2.2.2.2.2.2.2.2.1 w' x.2.2.2.2.2.2.2.2.2.2.2.2.2.2.2.2 x.2.2.2.2.2.2.2.2.2.2.2.1 ∧ Blk 19 x.2.2.2.2.2.2.2.2.2.2.2.2.1 w' a8 38 [vi x.2.2.2.2.2.2.1, vu x.2.2.2.2.2.2.2.1, vi x.2.2.2.2.2.2.2.2.1, x.2.2.2.2.2.2.2.2.2.2.2.2.2.2.2.1, vi x.2.2.2.2.2.2.2.2.2.2.1, x.2.2.2.2.2.2.2.2.2.2.2.2.2.2.2.2]) (fun x => [(2, vi a2), (6, pt bH 0), (8, pt a7 0), (9, pt a8 0)]) (ab.Scale, ab.Zero, ab.Pos.Offset, ab.Pos.Counts, ab.Neg.Offset, ab.Neg.Counts, ac.Scale, ac.Zero, ac.Pos.Offset, ac.Pos.Counts, ac.Neg.Offset, ac.Neg.Counts, f4, (vl bb bc bd), (vl bf bg bh), (vl bi bj bk), (vl bl bm bn)) ch (.cons z (.cons z (.cons z (.cons z .nil)))) ⟨h, (tr_ (su_ L z) (tr_ (su_ M z) (tr_ (su_ P z) (su_ Q z)))), da, dc, dh, di, c7, dm⟩ ?_
  rintro ⟨al, am, an, ci, ao, cj, ap, aq, ar, ck, au, cl, f5, aG, aH, aI, aJ⟩ ch gH ⟨h, F, aK, aL, aM, aN, aO, aP⟩
  obtain ⟨f6, g0, rfl, h, av⟩ := rnd1 h
  unfold tocum_Together_lp1 at h
  try dsimp only at h F aK aL aM aN aO aP
  refine (show WC _ _ _ _ [(2, vi a2), (6, pt bH 0), (8, pt a7 0), (9, pt a8 0)] _ from ?_)
  refine WC.block (sq (rg (wY (yL ty38 z z (aM.cells 0 [vi al, vu am, vi an, aG, vi ao, aH] z) z) z (wY (yL ty38 z z (aP.cells 0 [vi ap, vu aq, vi ar, aI, vi au, aJ] z) z) z ?_))))
  obtain ⟨⟨C, aQ⟩, dn, h⟩ := bnd h
  refine WL.call (vals := [ag [vi al, vu am, vi an, aG, vi ao, aH], ag [vi ap, vu aq, vi ar, aI, vi au, aJ]]) kok127 z z (c_fold_Merge (A := fun _ => True) (a0 := (api_Hist.mk al am (api_Side.mk an ci) (api_Side.mk ao cj))) (a1 := (api_Hist.mk ap aq (api_Side.mk ar ck) (api_Side.mk au cl))) (aK.src.sl) (aL.src.sl) (aN.src.sl) (aO.src.sl) dn) ?_
  rintro gI bO ⟨bo, cm, rfl, dp, f7, f8, f9⟩
  obtain ⟨bp, gh, ay, o⟩ := adoptE f5 (fun k => if ob bo = some k then 20 else if ob cm = some k then 21 else 1) dp
  have dr : OwnSl 20 Rep.u 33 bp bO bo C.Pos.Counts := RowF.adopt 20 Flat.u f7 ay (fun k hk => if_pos hk)
  have ds : OwnSl 21 Rep.u 33 bp bO cm C.Neg.Counts := RowF.adopt 21 Flat.u f8 ay (fun k hk => (if_neg (fun (e : ob bo = some k) => f9 k e hk)).trans (if_pos hk))
  refine wY (ym z) z (wY (yx z z) z (wY (yx z z) z (WL.alloc (O := bp) 22 hzr ty38 z z ?_)))
  intro cn aR gJ j dt
  have aS := dr.st j z z z
  have du := h
  obtain ⟨ad, ae, af, rfl⟩ := aS.shape
  have h := du
  have aT := ds.st j z z z
  have dw := h
  obtain ⟨ah, ai, aj, rfl⟩ := aT.shape
  have h := dw
  refine WL.store (v := ag (hl C (vl ad ae af) (vl ah ai aj))) (cells' := (hl C (vl ad ae af) (vl ah ai aj))) ty38 z z dt z (le_ z) z z ?_
  intro dx d aU
  refine wY (ya z) z (nl (th (sq (WC.block (sq (rg (wY (ym z) z (wY (Y.eql_i z z) z ?_))))))))
  obtain ⟨g1, dy, h⟩ := lt1 h
  refine WL.yE (ya z) (congrArg vB dy.symm) z (nl (th ?_))
  rcases cnd h with ⟨aW, h⟩ | ⟨aW, h⟩
  ·refine WC.condT' z aW (sq (rg (wY (yb (vals := []) (cells := hzr) (fe_ z) (by kernel_rfl)) z ?_)))
   have dH := ((((((((aC.st I z).st D z).st t z).st l z).st m z).st F z).st o z).st j z).st d z
   refine WL.store (v := ag hzr) (cells' := hzr) ty38 z z dH z (le_ z) z z ?_
   intro dI co dJ
   refine wY (ya z) z (nl (th (rt (At.inBlockR (At.thenR (At.inBlockR (At.loopR ?_)))))))
   have h := outr1 h av aF
   refine At.inBlockR ?_
   obtain ⟨rfl, rfl⟩ := tup2 h
   have dK : Stp [13, 14, 15, 16, 17, 18, 19, 22, 23, 24, 25, 26] (Lg.O0 A) w aR dI := (tr_ (su_ H z) (tr_ (su_ G z) (tr_ (su_ E z) (tr_ (su_ I z) (tr_ (su_ D z) (tr_ (su_ t z) (tr_ (su_ l z) (tr_ (su_ m z) (tr_ (su_ F z) (tr_ (su_ o z) (tr_ (su_ j z) (tr_ (su_ d z) (su_ co z)))))))))))))
   exact At.res (.inl z) z (.cell z (dJ.runAg 0 hzr ty38 z z z) (.tmp z .nil)) ⟨sn, sn, z, (se_ dK z z), RowF.nil, RowF.nil, (fun _ e => absurd e not_nil)⟩
  ·refine WC.condF' z aW (sq (rg (wY (ym z) z (wY (Y.eql_i z z) z (wY (ym z) z ?_)))))
   refine WL.cut 12 (σ := Unit) (fun _ w' => dx = w') (fun _ => [(2, vi a2), (6, pt bH 0), (8, pt a7 0), (9, pt a8 0), (11, pt cn 0), (48, vB ((decide (aQ = 0)) && (decide ((max (C.Pos.Counts.length : Int) (C.Neg.Counts.length : Int)) ≤ a2))))]) ?_ ?_
   ·refine WL.part 36 z (fun aX => ?_) (fun aX => ?_)
    ·refine ug z z (wY (yf fo38_2 z) z (ug z z (wY (yf fo36_1 z) z (ug z z (wY (yl ty34 z z (aU.cell 3 _ z)) z (ug z z ?_))))))
     have dL := aS.st d z z z
     refine wY (Y.len ty34 z dL.src.sl) z (ug z z (wY (yf fo38_3 z) z (ug z z (wY (yf fo36_1 z) z (ug z z (wY (yl ty34 z z (aU.cell 5 _ z)) z (ug z z ?_)))))))
     have dM := aT.st d z z z
     refine wY (Y.len ty34 z dM.src.sl) z (ug z z (wY (Y.max_i z z) z (ug z z (wY (ym z) z (ug z z (wY (Y.leq_i z z) z (wY (Y.pick (b := true) z z) z (WL.ren (v' := vB ((decide (aQ = 0)) && (decide ((max (C.Pos.Counts.length : Int) (C.Neg.Counts.length : Int)) ≤ a2)))) 48 z (congrArg vB (andT aX)) ?_))))))))
     exact nl (At.join () z (.cons z (.cons z (.cons z (.cons z (.cons z (.cons z .nil)))))))
    ·refine WL.gS z z z z (WL.gS z z z z (WL.gS z z z z (WL.gS z z z z (WL.gS z z z z (WL.gS z z z z (WL.gS z z z z (WL.gS z z z z (WL.gS z z z z (WL.gS z z z z ?_)))))))))
     refine WL.gS z z z z (wY (Y.pick (b := false) z z) z (WL.ren (v' := vB ((decide (aQ = 0)) && (decide ((max (C.Pos.Counts.length : Int) (C.Neg.Counts.length : Int)) ≤ a2)))) 48 z (congrArg vB (andF aX)) ?_))
     exact nl (At.join () z (.cons z (.cons z (.cons z (.cons z (.cons z (.cons z .nil)))))))
   ·rintro _ _ rfl
    refine (show WL _ _ _ _ _ [(2, vi a2), (6, pt bH 0), (8, pt a7 0), (9, pt a8 0), (11, pt cn 0), (48, vB ((decide (aQ = 0)) && (decide ((max (C.Pos.Counts.length : Int) (C.Neg.Counts.length : Int)) ≤ a2))))] _ from ?_)
    obtain ⟨g2, dN, h⟩ := lt1 h
    refine WL.yE (ya z) (congrArg vB dN.symm) z (nl (th ?_))
    rcases cnd h with ⟨aY, h⟩ | ⟨aY, h⟩
    ·refine WC.condT' z aY (sq (rg (wY (yL ty38 z z (aU.cells 0 (hl C (vl ad ae af) (vl ah ai aj)) z) z) z ?_)))
     have dW := ((((((((aC.st I z).st D z).st t z).st l z).st m z).st F z).st o z).st j z).st d z
     refine WL.store (v := ag (hl C (vl ad ae af) (vl ah ai aj))) (cells' := (hl C (vl ad ae af) (vl ah ai aj))) ty38 z z dW z (le_ z) z z ?_
     intro dX ax dY
     refine wY (ya z) z (nl (th (rt (At.inBlockR (At.thenR (At.inBlockR (At.loopR ?_)))))))
     have h := outr1 h av aF
     refine At.inBlockR ?_
     obtain ⟨rfl, rfl⟩ := tup2 h
     have aZ : Stp [13, 14, 15, 16, 17, 18, 19, 22, 23, 24, 25, 26] (Lg.O0 A) w aR dX := (tr_ (su_ H z) (tr_ (su_ G z) (tr_ (su_ E z) (tr_ (su_ I z) (tr_ (su_ D z) (tr_ (su_ t z) (tr_ (su_ l z) (tr_ (su_ m z) (tr_ (su_ F z) (tr_ (su_ o z) (tr_ (su_ j z) (tr_ (su_ d z) (su_ ax z)))))))))))))
     have bP := (aS.st d z z z).st ax z z z
     have bQ := (aT.st d z z z).st ax z z z
     exact At.res (.inl z) z (.cell z (dY.runAg 0 (hl C (vl ad ae af) (vl ah ai aj)) ty38 z z z) (.tmp z .nil)) ⟨(vl ad ae af), (vl ah ai aj), z, (se_ aZ z z), (OwnSl.outF bP aZ low0 z), (OwnSl.outF bQ aZ low0 z), (ne_own bP bQ z)⟩
    ·refine WC.condF' z aY (sq (rg (wY (yf fo38_0 z) z ?_)))
     have a3 := ((aM.st o z).st j z).st d z
     refine wY (yl ty3 z z (a3.cell 0 _ z)) z (wY (Y.eql_i z z) z ?_)
     obtain ⟨g3, d3, h⟩ := lt1 h
     refine WL.yE (ya z) (congrArg vB d3.symm) z (nl (th ?_))
     rcases cnd h with ⟨a4, h⟩ | ⟨a4, h⟩
     ·refine WC.condT' z a4 (sq (rg (wY (yb (vals := []) (cells := hzr) (fe_ z) (by kernel_rfl)) z ?_)))
      have ec := ((((((((aC.st I z).st D z).st t z).st l z).st m z).st F z).st o z).st j z).st d z
      refine WL.store (v := ag hzr) (cells' := hzr) ty38 z z ec z (le_ z) z z ?_
      intro ed cq ee
      refine wY (ya z) z (nl (th (rt (At.inBlockR (At.thenR (At.inBlockR (At.loopR ?_)))))))
      have h := outr1 h av aF
      refine At.inBlockR ?_
      obtain ⟨rfl, rfl⟩ := tup2 h
      have ef : Stp [13, 14, 15, 16, 17, 18, 19, 22, 23, 24, 25, 26] (Lg.O0 A) w aR ed := (tr_ (su_ H z) (tr_ (su_ G z) (tr_ (su_ E z) (tr_ (su_ I z) (tr_ (su_ D z) (tr_ (su_ t z) (tr_ (su_ l z) (tr_ (su_ m z) (tr_ (su_ F z) (tr_ (su_ o z) (tr_ (su_ j z) (tr_ (su_ d z) (su_ cq z)))))))))))))
      exact At.res (.inl z) z (.cell z (ee.runAg 0 hzr ty38 z z z) (.tmp z .nil)) ⟨sn, sn, z, (se_ ef z z), RowF.nil, RowF.nil, (fun _ e => absurd e not_nil)⟩
     ·refine WC.condF' z a4 (sk (At.inBlock (th (sq (rg (wY (yL ty38 z z (a3.cells 0 [vi al, vu am, vi an, aG, vi ao, aH] z) z) z ?_))))))
      have ei := ((aK.st o z z z).st j z z z).st d z z z
      have em := ((aL.st o z z z).st j z z z).st d z z z
      obtain ⟨⟨J, g4⟩, en, h⟩ := bnd h
      refine WL.call (vals := [ag [vi al, vu am, vi an, aG, vi ao, aH], vi 1]) kok128 z z (c_hist_Down (A := fun _ => True) (a0 := (api_Hist.mk al am (api_Side.mk an ci) (api_Side.mk ao cj))) (ei.src.sl) (em.src.sl) en) ?_
      rintro gK bR ⟨bq, cr, rfl, eo, ga, gb, gc⟩
      obtain ⟨br, gi, az, Z⟩ := adoptE aR (fun k => if ob bq = some k then 23 else if ob cr = some k then 24 else 1) eo
      have bS : OwnSl 23 Rep.u 33 br bR bq J.Pos.Counts := RowF.adopt 23 Flat.u ga az (fun k hk => if_pos hk)
      have bT : OwnSl 24 Rep.u 33 br bR cr J.Neg.Counts := RowF.adopt 24 Flat.u gb az (fun k hk => (if_neg (fun (e : ob bq = some k) => gc k e hk)).trans (if_pos hk))
      refine wY (ym z) z (wY (yx z z) z (wY (yx z z) z ?_))
      have ep := h
      obtain ⟨bs, bt, bu, rfl⟩ := bS.shape
      have h := ep
      have es := h
      obtain ⟨bw, bx, bz, rfl⟩ := bT.shape
      have h := es
      have et := a3.st Z z
      refine WL.store (v := ag (hl J (vl bs bt bu) (vl bw bx bz))) (cells' := (hl J (vl bs bt bu) (vl bw bx bz))) ty38 z z et z (le_ z) z z ?_
      intro gL S eu
      refine nl (th (rg ?_))
      have bU := ((((aP.st o z).st j z).st d z).st Z z).st S z
      refine wY (yL ty38 z z (bU.cells 0 [vi ap, vu aq, vi ar, aI, vi au, aJ] z) z) z ?_
      have eE := ((((aN.st o z z z).st j z z z).st d z z z).st Z z z z).st S z z z
      have eJ := ((((aO.st o z z z).st j z z z).st d z z z).st Z z z z).st S z z z
      obtain ⟨⟨K, g5⟩, eK, h⟩ := bnd h
      refine WL.call (vals := [ag [vi ap, vu aq, vi ar, aI, vi au, aJ], vi 1]) kok128 z z (c_hist_Down (A := fun _ => True) (a0 := (api_Hist.mk ap aq (api_Side.mk ar ck) (api_Side.mk au cl))) (eE.src.sl) (eJ.src.sl) eK) ?_
      rintro gM bW ⟨bA, cs, rfl, eL, gd, ge, gf⟩
      obtain ⟨ct, gj, aA, aa⟩ := adoptE br (fun k => if ob bA = some k then 25 else if ob cs = some k then 26 else 1) eL
      have bX : OwnSl 25 Rep.u 33 ct bW bA K.Pos.Counts := RowF.adopt 25 Flat.u gd aA (fun k hk => if_pos hk)
      have bY : OwnSl 26 Rep.u 33 ct bW cs K.Neg.Counts := RowF.adopt 26 Flat.u ge aA (fun k hk => (if_neg (fun (e : ob bA = some k) => gf k e hk)).trans (if_pos hk))
      refine wY (ym z) z (wY (yx z z) z (wY (yx z z) z ?_))
      have eM := h
      obtain ⟨bB, bC, bD, rfl⟩ := bX.shape
      have h := eM
      have eN := h
      obtain ⟨bE, bF, bG, rfl⟩ := bY.shape
      have h := eN
      have eO := bU.st aa z
      refine WL.store (v := ag (hl K (vl bB bC bD) (vl bE bF bG))) (cells' := (hl K (vl bB bC bD) (vl bE bF bG))) ty38 z z eO z (le_ z) z z ?_
      intro gO T eP
      refine nl (At.inBlock ?_)
      have eS := ((bS.st S z z z).st aa z z z).st T z z z
      obtain ⟨g6, U, eT⟩ := OwnSl.rlb 1001 rfl eS
      have eX := (((bT.st S z z z).st aa z z z).st T z z z).st U z z z
      obtain ⟨g7, V, eY⟩ := OwnSl.rlb 1002 rfl eX
      have e1 := ((bX.st T z z z).st U z z z).st V z z z
      obtain ⟨g8, W, e2⟩ := OwnSl.rlb 1003 rfl e1
      have e8 := (((bY.st T z z z).st U z z z).st V z z z).st W z z z
      obtain ⟨gg, X, e9⟩ := OwnSl.rlb 1004 rfl e8
      have fd := ((eT.st V z z z).st W z z z).st X z z z
      have ff := (eY.st W z z z).st X z z z
      have fl := (((((eu.st aa z).st T z).st U z).st V z).st W z).st X z
      have fm := e2.st X z z z
      have fq := (((eP.st U z).st V z).st W z).st X z
      exact At.round (J.Scale, J.Zero, J.Pos.Offset, J.Pos.Counts, J.Neg.Offset, J.Neg.Counts, K.Scale, K.Zero, K.Pos.Offset, K.Pos.Counts, K.Neg.Offset, K.Neg.Counts, gg, (vl bs bt bu), (vl bw bx bz), (vl bB bC bD), (vl bE bF bG)) f6 (Nat.lt_succ_self _) ⟨next1 h av, (tr_ (su_ F z) (tr_ (su_ o z) (tr_ (su_ j z) (tr_ (su_ d z) (tr_ (su_ Z z) (tr_ (su_ S z) (tr_ (su_ aa z) (tr_ (su_ T z) (tr_ (su_ U z) (tr_ (su_ V z) (tr_ (su_ W z) (su_ X z)))))))))))), fd, ff, fl, fm, e9, fq⟩ (.cons z (.cons z (.cons z (.cons z .nil))))
theorem c_rollup_values {A : Nat → Prop} {v0_1 : Value} {v0_13 : Value} {v0_15 : Value} {a0 : api_Point} {b0 : Nat} {v1_1 : Value} {v1_13 : Value} {v1_15 : Value} {a1 : api_Point} {w : World} (hs0_1 : Sl rep_api_Pair w A v0_1 a0.Attrs) (hs0_13 : Sl Rep.u w A v0_13 a0.Hist.Pos.Counts) (hs0_15 : Sl Rep.u w A v0_15 a0.Hist.Neg.Counts) (hb0 : w.heap[b0]? = some (.cells (List.toArray (cp a0 v0_1 v0_13 v0_15)) 40 (0, 0))) (hs1_1 : Sl rep_api_Pair w A v1_1 a1.Attrs) (hs1_13 : Sl Rep.u w A v1_13 a1.Hist.Pos.Counts) (hs1_15 : Sl Rep.u w A v1_15 a1.Hist.Neg.Counts) (hA : ∀ k, A k → k ≠ b0) {r0 : Int} {q0 : api_Point} (h : rollup_values a0 a1 = some (r0, q0)) : Rets Tryz.prog 51 [pt b0 0, ag (cp a1 v1_1 v1_13 v1_15)] w (fun v w' => ∃ (bt : Value) (bc : Value) (bd : Value), v = vi r0 ∧ Mod (fun k => k = b0) w w' ∧ Sl rep_api_Pair w' (fun k => A k ∨ w.heap.size ≤ k) bt q0.Attrs ∧ Sl Rep.u w' (fun k => A k ∨ w.heap.size ≤ k) bc q0.Hist.Pos.Counts ∧ Sl Rep.u w' (fun k => A k ∨ w.heap.size ≤ k) bd q0.Hist.Neg.Counts ∧ w'.heap[b0]? = some (.cells (List.toArray (cp q0 bt bc bd)) 40 (0, 0))) := by
 unfold rollup_values at h
 refine Rets.enter Tryz.func51 z z ?_
 have P : Sl rep_api_Pair w (imm (Lg.OB b0 3 (Lg.O0 A))) v0_1 a0.Attrs := (Sl.OB (Sl.start hs0_1) (fun k hk => (hA k (O0_A k hk))))
 have L : Sl Rep.u w (imm (Lg.OB b0 3 (Lg.O0 A))) v0_13 a0.Hist.Pos.Counts := (Sl.OB (Sl.start hs0_13) (fun k hk => (hA k (O0_A k hk))))
 have M : Sl Rep.u w (imm (Lg.OB b0 3 (Lg.O0 A))) v0_15 a0.Hist.Neg.Counts := (Sl.OB (Sl.start hs0_15) (fun k hk => (hA k (O0_A k hk))))
 have eE : Blk 3 (Lg.OB b0 3 (Lg.O0 A)) w b0 40 (cp a0 v0_1 v0_13 v0_15) := ⟨(if_pos z), hb0⟩
 have eF : Sl rep_api_Pair w (imm (Lg.OB b0 3 (Lg.O0 A))) v1_1 a1.Attrs := (Sl.OB (Sl.start hs1_1) (fun k hk => (hA k (O0_A k hk))))
 have aW : Sl Rep.u w (imm (Lg.OB b0 3 (Lg.O0 A))) v1_13 a1.Hist.Pos.Counts := (Sl.OB (Sl.start hs1_13) (fun k hk => (hA k (O0_A k hk))))
 have aX : Sl Rep.u w (imm (Lg.OB b0 3 (Lg.O0 A))) v1_15 a1.Hist.Neg.Counts := (Sl.OB (Sl.start hs1_15) (fun k hk => (hA k (O0_A k hk))))
 refine (show WC _ _ _ _ [(0, pt b0 0), (1, ag (cp a1 v1_1 v1_13 v1_15))] _ from ?_)
 refine sq (rg ?_)
 have eG := h
 obtain ⟨fN, fO, fP, rfl⟩ := eF.shape
 have h := eG
 have eH := h
 obtain ⟨bf, bg, bh, rfl⟩ := aW.shape
 have h := eH
 have eI := h
 obtain ⟨bi, bj, bk, rfl⟩ := aX.shape
 have h := eI
 refine WL.box (O := (Lg.OB b0 3 (Lg.O0 A))) 11 (cp a1 (vl fN fO fP) (vl bf bg bh) (vl bi bj bk)) z z z ?_
 intro eD I eJ d aD
 refine wY (ya z) z (nl (th (sq (sq (rg (wY (ym z) z (wY (yn z) z (wY (yf fo40_2 z) z ?_))))))))
 have H := eE.st d z
 refine wY (yl ty3 z z (H.cell 2 _ z)) z (nl (th (WC.block (sq (rg (wY (Y.eql_i z z) z ?_))))))
 obtain ⟨gs, eK, h⟩ := lt1 h
 refine WL.yE (ya z) (congrArg vB eK.symm) z (nl (th ?_))
 rcases cnd h with ⟨aY, h⟩ | ⟨aY, h⟩
 ·refine WC.condT' z aY (sq (WC.draw 7 I fmix (by kernel_rfl) ?_))
  intro aI G
  refine WS.y (ym z) z (WS.y (yn z) z (WS.y (yf fo40_7 z) z ?_))
  have aE := H.st G z
  refine WS.y (yl ty3 z z (aE.cell 7 _ z)) z (WS.y (yf fo40_7 z) z ?_)
  have aZ := aD.st G z
  refine WS.y (yl ty3 z z (aZ.cell 7 _ z)) z (WS.y (Y.add_i z z) z (WS.tail ?_))
  obtain ⟨j, bu, h⟩ := lt1 h
  refine WL.yE (ya z) (congrArg vi bu.symm) z (nl (th (sq (sq (rg (wY (yf fo40_7 z) z (wY (yl ty3 z z (aZ.cell 7 _ z)) z (wY (Y.gtr_i z z) z (wY (ym z) z ?_)))))))))
  refine WL.cut 7 (σ := Unit) (fun _ w' => aI = w') (fun _ => [(0, pt b0 0), (3, pt eD 0), (5, vi j), (31, vB ((decide (0 < a1.Int_)) && (decide (j < a0.Int_))))]) ?_ ?_
  ·refine WL.part 24 z (fun a2 => ?_) (fun a2 => ?_)
   ·refine ug z z (wY (ym z) z (ug z z (wY (ym z) z (ug z z (wY (yn z) z (ug z z (wY (yf fo40_7 z) z (ug z z (wY (yl ty3 z z (aE.cell 7 _ z)) z ?_)))))))))
    refine ug z z (wY (Y.lss_i z z) z (wY (Y.pick (b := true) z z) z (WL.ren (v' := vB ((decide (0 < a1.Int_)) && (decide (j < a0.Int_)))) 31 z (congrArg vB (andT a2)) ?_)))
    exact nl (At.join () z (.cons z (.cons z (.cons z (.cons z .nil)))))
   ·refine WL.gS z z z z (WL.gS z z z z (WL.gS z z z z (WL.gS z z z z (WL.gS z z z z (WL.gS z z z z (wY (Y.pick (b := false) z z) z (WL.ren (v' := vB ((decide (0 < a1.Int_)) && (decide (j < a0.Int_)))) 31 z (congrArg vB (andF a2)) ?_)))))))
    exact nl (At.join () z (.cons z (.cons z (.cons z (.cons z .nil)))))
  ·rintro _ _ rfl
   refine (show WL _ _ _ _ _ [(0, pt b0 0), (3, pt eD 0), (5, vi j), (31, vB ((decide (0 < a1.Int_)) && (decide (j < a0.Int_))))] _ from ?_)
   refine wY (ym z) z ?_
   refine WL.cut 12 (σ := Unit) (fun _ w' => aI = w') (fun _ => [(0, pt b0 0), (5, vi j), (44, vB (((decide (0 < a1.Int_)) && (decide (j < a0.Int_))) || ((decide (a1.Int_ < 0)) && (decide (a0.Int_ < j)))))]) ?_ ?_
   ·refine WL.part 32 z (fun a3 => ?_) (fun a3 => ?_)
    ·refine WL.gS z z z z (WL.gS z z z z (WL.gS z z z z (WL.gS z z z z (WL.gS z z z z (WL.gS z z z z (WL.gS z z z z (WL.gS z z z z (WL.gS z z z z (WL.gS z z z z ?_)))))))))
     refine WL.gS z z z z (wY (Y.pick (b := true) z z) z (WL.ren (v' := vB (((decide (0 < a1.Int_)) && (decide (j < a0.Int_))) || ((decide (a1.Int_ < 0)) && (decide (a0.Int_ < j))))) 44 z (congrArg vB (orT a3)) ?_))
     exact nl (At.join () z (.cons z (.cons z (.cons z .nil))))
    ·refine ug z z (wY (yf fo40_7 z) z (ug z z (wY (yl ty3 z z (aZ.cell 7 _ z)) z (ug z z (wY (Y.lss_i z z) z (ug z z (wY (ym z) z ?_)))))))
     refine WL.cut 7 (σ := Unit) (fun _ w' => aI = w') (fun _ => [(0, pt b0 0), (5, vi j), (32, vB false), (43, vB ((decide (a1.Int_ < 0)) && (decide (a0.Int_ < j))))]) ?_ ?_
     ·refine WL.part 36 z (fun a4 => ?_) (fun a4 => ?_)
      ·refine ug z z (wY (ym z) z (ug z z (wY (ym z) z (ug z z (wY (yn z) z (ug z z (wY (yf fo40_7 z) z (ug z z (wY (yl ty3 z z (aE.cell 7 _ z)) z ?_)))))))))
       refine ug z z (wY (Y.gtr_i z z) z (ug z z (wY (Y.pick (b := true) z z) z (WL.ren (v' := vB ((decide (a1.Int_ < 0)) && (decide (a0.Int_ < j)))) 43 z (congrArg vB (andT a4)) ?_))))
       exact nl (At.join () z (.cons z (.cons z (.cons z (.cons z .nil)))))
      ·refine WL.gS z z z z (WL.gS z z z z (WL.gS z z z z (WL.gS z z z z (WL.gS z z z z (WL.gS z z z z (ug z z (wY (Y.pick (b := false) z z) z (WL.ren (v' := vB ((decide (a1.Int_ < 0)) && (decide (a0.Int_ < j)))) 43 z (congrArg vB (andF a4)) ?_))))))))
       exact nl (At.join () z (.cons z (.cons z (.cons z (.cons z .nil)))))
     ·rintro _ _ rfl
      refine (show WL _ _ _ _ _ [(0, pt b0 0), (5, vi j), (32, vB false), (43, vB ((decide (a1.Int_ < 0)) && (decide (a0.Int_ < j))))] _ from ?_)
      refine wY (Y.pick (b := false) z z) z (WL.ren (v' := vB (((decide (0 < a1.Int_)) && (decide (j < a0.Int_))) || ((decide (a1.Int_ < 0)) && (decide (a0.Int_ < j))))) 44 z (congrArg vB (orF a3)) ?_)
      exact nl (At.join () z (.cons z (.cons z (.cons z .nil))))
   ·rintro _ _ rfl
    refine (show WL _ _ _ _ _ [(0, pt b0 0), (5, vi j), (44, vB (((decide (0 < a1.Int_)) && (decide (j < a0.Int_))) || ((decide (a1.Int_ < 0)) && (decide (a0.Int_ < j)))))] _ from ?_)
    refine nl (th ?_)
    rcases cnd h with ⟨a5, h⟩ | ⟨a5, h⟩
    ·refine WC.condT' z a5 (sq (rg (wY (ya z) z (nl (th (rt (At.thenR (At.inBlockR (At.thenR ?_)))))))))
     obtain ⟨rfl, rfl⟩ := tup2 h
     have aJ : Stp [] (Lg.OB b0 3 (Lg.O0 A)) w I aI := (tr_ (su_ d z) (su_ G z))
     have eM := (P.i d z z).i G z z
     have eO := (L.i d z z).i G z z
     have eQ := (M.i d z z).i G z z
     exact At.res (.inl z) z (.tmp z .nil) ⟨v0_1, v0_13, v0_15, z, (Stp.modL aJ sB1 z z), (Sl.outI eM aJ (lowB low0 z z) (aB (ℓ := 3) O0_A z)), (Sl.outI eO aJ (lowB low0 z z) (aB (ℓ := 3) O0_A z)), (Sl.outI eQ aJ (lowB low0 z z) (aB (ℓ := 3) O0_A z)), aE.blk⟩
    ·refine WC.condF' z a5 (sk (th (rg (wY (ym z) z (wY (ym z) z (wY (yn z) z (wY (yf fo40_7 z) z (WL.store (v := vi j) (cells' := [vs a0.Name, v0_1, vi a0.Kind, vi a0.Temp, vB a0.Mono, vi a0.Start, vi a0.Time, vi j, vu a0.Re, vu a0.Im, vi a0.Hist.Scale, vu a0.Hist.Zero, vi a0.Hist.Pos.Offset, v0_13, vi a0.Hist.Neg.Offset, v0_15, vi a0.Flags]) ty3 z z aE z (le_ z) z z ?_))))))))
     intro eR ar eS
     refine nl (At.inBlock (th (sq (rg (wY (ya z) z (nl (th (rt ?_))))))))
     obtain ⟨rfl, rfl⟩ := tup2 h
     have aK : Stp [3] (Lg.OB b0 3 (Lg.O0 A)) w I eR := (tr_ (su_ d z) (tr_ (su_ G z) (su_ ar z)))
     have eV := ((P.i d z z).i G z z).i ar z z
     have eY := ((L.i d z z).i G z z).i ar z z
     have e1 := ((M.i d z z).i G z z).i ar z z
     exact At.res (.inl z) z (.tmp z .nil) ⟨v0_1, v0_13, v0_15, z, (Stp.modL aK sB1 z z), (Sl.outI eV aK (lowB low0 z z) (aB (ℓ := 3) O0_A z)), (Sl.outI eY aK (lowB low0 z z) (aB (ℓ := 3) O0_A z)), (Sl.outI e1 aK (lowB low0 z z) (aB (ℓ := 3) O0_A z)), eS.blk⟩
 ·refine WC.condF' z aY (sq (rg (wY (Y.eql_i z z) z ?_)))
  obtain ⟨gt, e2, h⟩ := lt1 h
  refine WL.yE (ya z) (congrArg vB e2.symm) z (nl (th ?_))
  rcases cnd h with ⟨a6, h⟩ | ⟨a6, h⟩
  ·refine WC.condT' z a6 (sq (WC.drawH [] [0, 1, 2, 3, 4, 5, 6, 7, 8, 9] I 11 fmix z (by kernel_rfl) ?_))
   intro f9 C
   refine WD.y 0 z (by kernel_rfl) (fun _ _ _ => ym z) z (WD.y 1 z (by kernel_rfl) (fun _ _ _ => ym z) z (WD.y 2 z (by kernel_rfl) (fun _ _ _ => yn z) z (WD.y 3 z (by kernel_rfl) (fun _ _ _ => yf fo40_8 z) z (WD.y 4 z (by kernel_rfl) (fun ga gu bG => have e5 := H.st C z; have e6 := e5.st bG z; yl ty33 z z (e6.cell 8 _ z)) z (WD.y 5 z (by kernel_rfl) (fun _ _ _ => yf fo40_8 z) z (WD.y 6 z (by kernel_rfl) (fun gb gw bH => have e7 := aD.st C z; have e8 := e7.st bH z; yl ty33 z z (e8.cell 8 _ z)) z (WD.heavy 7 z (by kernel_rfl) ?_)))))))
   obtain ⟨bw, e9, h⟩ := bnd h
   refine WL.call (vals := [vu a0.Re, vu a1.Re]) kok90 z z (c_num_Add e9) ?_
   rintro fQ gc ⟨rfl, fa⟩
   obtain ⟨a7, fD, fF, t⟩ := adoptE I (fun k => 1) fa
   refine nl (At.dq (su_ t z) (WD.y 8 z (by kernel_rfl) (fun _ _ _ => yn z) z (WD.y 9 z (by kernel_rfl) (fun _ _ _ => yf fo40_8 z) z (WD.phase [3] [0, 1, 2, 3, 4, 5, 6, 7, 8, 9, 10] (by kernel_rfl) (by kernel_rfl) (WD.heavy 10 z (by kernel_rfl) ?_)))))
   have bJ := (H.st C z).st t z
   refine WL.store (v := vu bw) (cells' := [vs a0.Name, v0_1, vi a0.Kind, vi a0.Temp, vB a0.Mono, vi a0.Start, vi a0.Time, vi a0.Int_, vu bw, vu a0.Im, vi a0.Hist.Scale, vu a0.Hist.Zero, vi a0.Hist.Pos.Offset, v0_13, vi a0.Hist.Neg.Offset, v0_15, vi a0.Flags]) ty33 z z bJ z (le_ z) z z ?_
   intro bK D au
   refine nl (At.dq (su_ D z) (WD.done_ (by kernel_rfl) (th (sq (rg (wY (ym z) z (wY (yn z) z (wY (yf fo40_4 z) z (wY (yl ty4 z z (au.cell 4 _ z)) z ?_)))))))))
   refine wY (ym z) z ?_
   obtain ⟨fc, h, bL⟩ := bnd h
   refine WL.cut 7 (σ := (Bool × Own)) (fun x w' => x.1 = fc ∧ Stp [] a7 bK x.2 w') (fun x => [(72, vB x.1)]) ?_ ?_
   ·rcases cnd h with ⟨aL, h⟩ | ⟨aL, h⟩
    ·refine WL.ren 65 z (congrArg vB aL) (ug z z (wY (ym z) z (ug z z (wY (yn z) z (ug z z (wY (yf fo40_8 z) z (ug z z (wY (yl ty33 z z (au.cell 8 _ z)) z (ug z z ?_)))))))))
     obtain ⟨fd, bM, h⟩ := bnd h
     refine WL.call (vals := [vu bw]) kok37 z z (c_num_Finite bM) ?_
     rintro fR fT ⟨rfl, bO⟩
     obtain ⟨fe, fG, fH, bx⟩ := adoptE a7 (fun k => 1) bO
     refine ug z z (wY (Y.not z) z (wY (Y.pick (b := true) z z) z ?_))
     exact nl (At.join (σ := (Bool × Own)) ((!fd), fe) ⟨some1 h, (su_ bx z)⟩ (.cons z .nil))
    ·refine WL.ren 65 z (congrArg vB aL) (WL.gS z z z z (WL.gS z z z z (WL.gS z z z z (WL.gS z z z z (WL.gS z z z z (WL.gS z z z z (wY (Y.pick (b := false) z z) z ?_)))))))
     exact nl (At.join (σ := (Bool × Own)) (false, a7) ⟨some1 h, (sr_ _ _ _)⟩ (.cons z .nil))
   ·rintro ⟨ff, bz⟩ bl ⟨rfl, m⟩
    replace h := bL
    try dsimp only at h m
    refine (show WL _ _ _ _ _ [(72, vB ff)] _ from ?_)
    refine nl (th ?_)
    rcases cnd h with ⟨aM, h⟩ | ⟨aM, h⟩
    ·refine WC.condT' z aM (sq (rg (wY (ya z) z (nl (th (rt (At.inBlockR (At.thenR ?_))))))))
     obtain ⟨rfl, rfl⟩ := tup2 h
     have av : Stp [3] (Lg.OB b0 3 (Lg.O0 A)) w bz bl := (tr_ (su_ d z) (tr_ (su_ C z) (tr_ (su_ t z) (tr_ (su_ D z) (su_ m z)))))
     have bP := au.st m z
     have bU := ((((P.i d z z).i C z z).i t z z).i D z z).i m z z
     have b1 := ((((L.i d z z).i C z z).i t z z).i D z z).i m z z
     have b6 := ((((M.i d z z).i C z z).i t z z).i D z z).i m z z
     exact At.res (.inl z) z (.tmp z .nil) ⟨v0_1, v0_13, v0_15, z, (Stp.modL av sB1 z z), (Sl.outI bU av (lowB low0 z z) (aB (ℓ := 3) O0_A z)), (Sl.outI b1 av (lowB low0 z z) (aB (ℓ := 3) O0_A z)), (Sl.outI b6 av (lowB low0 z z) (aB (ℓ := 3) O0_A z)), bP.blk⟩
    ·refine WC.condF' z aM (sk (At.inBlock (th (sq (rg (wY (ya z) z (nl (th (rt ?_)))))))))
     obtain ⟨rfl, rfl⟩ := tup2 h
     have ax : Stp [3] (Lg.OB b0 3 (Lg.O0 A)) w bz bl := (tr_ (su_ d z) (tr_ (su_ C z) (tr_ (su_ t z) (tr_ (su_ D z) (su_ m z)))))
     have b7 := au.st m z
     have cc := ((((P.i d z z).i C z z).i t z z).i D z z).i m z z
     have ch := ((((L.i d z z).i C z z).i t z z).i D z z).i m z z
     have cm := ((((M.i d z z).i C z z).i t z z).i D z z).i m z z
     exact At.res (.inl z) z (.tmp z .nil) ⟨v0_1, v0_13, v0_15, z, (Stp.modL ax sB1 z z), (Sl.outI cc ax (lowB low0 z z) (aB (ℓ := 3) O0_A z)), (Sl.outI ch ax (lowB low0 z z) (aB (ℓ := 3) O0_A z)), (Sl.outI cm ax (lowB low0 z z) (aB (ℓ := 3) O0_A z)), b7.blk⟩
  ·refine WC.condF' z a6 (sq (rg (wY (Y.eql_i z z) z ?_)))
   obtain ⟨gd, cn, h⟩ := lt1 h
   refine WL.yE (ya z) (congrArg vB cn.symm) z (nl (th ?_))
   rcases cnd h with ⟨aN, h⟩ | ⟨aN, h⟩
   ·refine WC.condT' z aN (WC.drawH [3] [0, 1, 2, 3, 4, 5, 6, 7, 8, 9, 10, 11, 12, 13, 14, 15, 16, 17, 18, 19, 20, 21, 22] I 24 fmix z (by kernel_rfl) ?_)
    intro co E
    refine WD.y 0 z (by kernel_rfl) (fun _ _ _ => ym z) z (WD.y 1 z (by kernel_rfl) (fun _ _ _ => ym z) z (WD.y 2 z (by kernel_rfl) (fun _ _ _ => ym z) z (WD.y 3 z (by kernel_rfl) (fun _ _ _ => yn z) z (WD.y 4 z (by kernel_rfl) (fun _ _ _ => yf fo40_8 z) z (WD.y 6 z (by kernel_rfl) (fun _ _ _ => ym z) z (WD.y 7 z (by kernel_rfl) (fun _ _ _ => yn z) z (WD.y 8 z (by kernel_rfl) (fun _ _ _ => yf fo40_9 z) z (WD.y 10 z (by kernel_rfl) (fun _ _ _ => yf fo40_8 z) z (WD.y 11 z (by kernel_rfl) (fun fU ge bA => have cq := aD.st E z; have cr := cq.st bA z; yl ty33 z z (cr.cell 8 _ z)) z ?_)))))))))
    refine WD.y 12 z (by kernel_rfl) (fun _ _ _ => yf fo40_9 z) z (WD.y 13 z (by kernel_rfl) (fun fV gf bB => have cs := aD.st E z; have ct := cs.st bB z; yl ty33 z z (ct.cell 9 _ z)) z ?_)
    obtain ⟨fg, h, cu⟩ := bnd h
    refine WD.join (σ := Unit) (f' := 10) [13, 12, 11, 10, 9, 8, 7, 6, 5, 4, 3, 2, 1, 0] (fun x O' w' => () = fg ∧ co = w' ∧ I = O') (fun x => [(76, pt b0 0), (77, pt b0 0), (81, vu a0.Re), (85, vu a0.Im), (87, vu a1.Re), (89, vu a1.Im)]) (fun bm => ?_) ?_
    ·refine WD.heavy2 5 9 z z (by kernel_rfl) ?_ ?_
     ·have bn := H.st E z
      refine wY (yl ty33 z z (bn.cell 8 _ z)) z (nl (At.dq (sr_ _ _ _) (WD.heavy 9 z (by kernel_rfl) (wY (yl ty33 z z (bn.cell 9 _ z)) z (nl (At.dq (sr_ _ _ _) (WD.perm _ [13, 12, 11, 10, 9, 8, 7, 6, 5, 4, 3, 2, 1, 0] (by kernel_rfl) ?_)))))))
      exact bm () _ _ _ ⟨z, z, z⟩ (.cons z (.cons z (.cons z (.cons z (.cons z (.cons z .nil))))))
     ·try simp only [Option.bind_assoc] at h
      try simp only [Option.bind_some] at h
      have bo := H.st E z
      refine wY (yl ty33 z z (bo.cell 9 _ z)) z (nl (At.dq (sr_ _ _ _) (WD.heavy 5 z (by kernel_rfl) (wY (yl ty33 z z (bo.cell 8 _ z)) z (nl (At.dq (sr_ _ _ _) (WD.perm _ [13, 12, 11, 10, 9, 8, 7, 6, 5, 4, 3, 2, 1, 0] (by kernel_rfl) ?_)))))))
      exact bm () _ _ _ ⟨z, z, z⟩ (.cons z (.cons z (.cons z (.cons z (.cons z (.cons z .nil))))))
    ·rintro _ _ _ ⟨rfl, rfl, rfl⟩
     replace h := cu
     refine (show WD _ _ _ _ _ _ _ _ [(76, pt b0 0), (77, pt b0 0), (81, vu a0.Re), (85, vu a0.Im), (87, vu a1.Re), (89, vu a1.Im)] _ _ from ?_)
     refine WD.heavy 14 z (by kernel_rfl) ?_
     obtain ⟨⟨a8, bC⟩, cv, h⟩ := bnd h
     refine WL.call (vals := [vu a0.Re, vu a0.Im, vu a1.Re, vu a1.Im]) kok91 z z (c_num_AddPhasor cv) ?_
     rintro fY f0 ⟨rfl, cw⟩
     obtain ⟨fh, fI, fJ, J⟩ := adoptE I (fun k => 1) cw
     refine nl (At.dq (su_ J z) (WD.y 15 z (by kernel_rfl) (fun _ _ _ => ym z) z (WD.y 16 z (by kernel_rfl) (fun _ _ _ => yx z z) z (WD.y 17 z (by kernel_rfl) (fun _ _ _ => yx z z) z (WD.y 18 z (by kernel_rfl) (fun _ _ _ => yn z) z (WD.y 19 z (by kernel_rfl) (fun _ _ _ => yf fo40_8 z) z (WD.heavy 20 z (by kernel_rfl) ?_)))))))
     have cy := (H.st E z).st J z
     refine WL.store (v := vu a8) (cells' := [vs a0.Name, v0_1, vi a0.Kind, vi a0.Temp, vB a0.Mono, vi a0.Start, vi a0.Time, vi a0.Int_, vu a8, vu a0.Im, vi a0.Hist.Scale, vu a0.Hist.Zero, vi a0.Hist.Pos.Offset, v0_13, vi a0.Hist.Neg.Offset, v0_15, vi a0.Flags]) ty33 z z cy z (le_ z) z z ?_
     intro f1 Q cz
     refine nl (At.dq (su_ Q z) (WD.y 21 z (by kernel_rfl) (fun _ _ _ => yn z) z (WD.y 22 z (by kernel_rfl) (fun _ _ _ => yf fo40_9 z) z (WD.phase [3] [0, 1, 2, 3, 4, 5, 6, 7, 8, 9, 10, 11, 12, 13, 14, 15, 16, 17, 18, 19, 20, 21, 22, 23] (by kernel_rfl) (by kernel_rfl) (WD.heavy 23 z (by kernel_rfl) (WL.store (v := vu bC) (cells' := [vs a0.Name, v0_1, vi a0.Kind, vi a0.Temp, vB a0.Mono, vi a0.Start, vi a0.Time, vi a0.Int_, vu a8, vu bC, vi a0.Hist.Scale, vu a0.Hist.Zero, vi a0.Hist.Pos.Offset, v0_13, vi a0.Hist.Neg.Offset, v0_15, vi a0.Flags]) ty33 z z cz z (le_ z) z z ?_))))))
     intro cA S cC
     refine nl (At.dq (su_ S z) (WD.done_ (by kernel_rfl) (At.inBlock (th (sq (rg (wY (ya z) z (nl (th ?_)))))))))
     refine rt ?_
     obtain ⟨rfl, rfl⟩ := tup2 h
     have ay : Stp [3] (Lg.OB b0 3 (Lg.O0 A)) w fh cA := (tr_ (su_ d z) (tr_ (su_ E z) (tr_ (su_ J z) (tr_ (su_ Q z) (su_ S z)))))
     have cH := ((((P.i d z z).i E z z).i J z z).i Q z z).i S z z
     have cM := ((((L.i d z z).i E z z).i J z z).i Q z z).i S z z
     have cR := ((((M.i d z z).i E z z).i J z z).i Q z z).i S z z
     exact At.res (.inl z) z (.tmp z .nil) ⟨v0_1, v0_13, v0_15, z, (Stp.modL ay sB1 z z), (Sl.outI cH ay (lowB low0 z z) (aB (ℓ := 3) O0_A z)), (Sl.outI cM ay (lowB low0 z z) (aB (ℓ := 3) O0_A z)), (Sl.outI cR ay (lowB low0 z z) (aB (ℓ := 3) O0_A z)), cC.blk⟩
   ·refine WC.condF' z aN (sq (rg (wY (Y.eql_i z z) z ?_)))
    obtain ⟨gg, cS, h⟩ := lt1 h
    refine WL.yE (ya z) (congrArg vB cS.symm) z (nl (th ?_))
    rcases cnd h with ⟨aO, h⟩ | ⟨aO, h⟩
    ·refine WC.condT' z aO (sq (WC.drawH [12, 13, 14, 15, 16, 17, 1001] [0, 1, 2, 3, 4, 5, 6, 7, 8, 9, 10, 11, 12] I 13 fmix z (by kernel_rfl) ?_))
     intro cT l
     refine WD.y 0 z (by kernel_rfl) (fun _ _ _ => ym z) z (WD.y 1 z (by kernel_rfl) (fun _ _ _ => yn z) z (WD.y 2 z (by kernel_rfl) (fun _ _ _ => yf fo40_10 z) z (WD.y 3 z (by kernel_rfl) (fun f2 gh bD => have cU := H.st l z; have cV := cU.st bD z; yL ty38 z z (cV.cells 10 (hl a0.Hist v0_13 v0_15) z) z) z (WD.y 4 z (by kernel_rfl) (fun _ _ _ => yf fo40_10 z) z (WD.y 5 z (by kernel_rfl) (fun f3 gi bE => have cW := aD.st l z; have cX := cW.st bE z; yL ty38 z z (cX.cells 10 (hl a1.Hist (vl bf bg bh) (vl bi bj bk)) z) z) z ?_)))))
     obtain ⟨fi, h, cY⟩ := bnd h
     refine WD.join (σ := (Int × UInt64 × Int × List UInt64 × Int × List UInt64 × Bool × Own × Nat × Value × Value)) (f' := 2) [10, 9, 8, 7, 6, 5, 4, 3, 2, 1, 0] (fun x O' w' => (x.1, x.2.1, x.2.2.1, x.2.2.2.1, x.2.2.2.2.1, x.2.2.2.2.2.1, x.2.2.2.2.2.2.1) = fi ∧ Stp [12, 13, 14, 15, 16, 17] I cT x.2.2.2.2.2.2.2.1 w' ∧ Blk 1001 x.2.2.2.2.2.2.2.1 w' x.2.2.2.2.2.2.2.2.1 38 hzr ∧ OwnSl 1002 Rep.u 33 x.2.2.2.2.2.2.2.1 w' x.2.2.2.2.2.2.2.2.2.1 x.2.2.2.1 ∧ OwnSl 1003 Rep.u 33 x.2.2.2.2.2.2.2.1 w' x.2.2.2.2.2.2.2.2.2.2 x.2.2.2.2.2.1 ∧ x.2.2.2.2.2.2.2.1 = O') (fun x => [(0, pt b0 0), (6, Value.pointer (some ⟨x.2.2.2.2.2.2.2.2.1, 0, none⟩)), (107, ag [vi x.1, vu x.2.1, vi x.2.2.1, x.2.2.2.2.2.2.2.2.2.1, vi x.2.2.2.2.1, x.2.2.2.2.2.2.2.2.2.2]), (108, vB x.2.2.2.2.2.2.1)]) (fun bp => ?_) ?_
     ·refine WD.heavy2 6 10 z z (by kernel_rfl) ?_ ?_
      ·have c0 := (L.i d z z).i l z z
       have c2 := (M.i d z z).i l z z
       have c4 := (aW.i d z z).i l z z
       have c6 := (aX.i d z z).i l z z
       obtain ⟨⟨T, fj⟩, c7, h⟩ := bnd h
       refine WL.call (vals := [ag (hl a0.Hist v0_13 v0_15), ag (hl a1.Hist (vl bf bg bh) (vl bi bj bk)), vi 160]) kok92 z z (c_tocum_Together (A := fun _ => True) (a0 := a0.Hist) (a1 := a1.Hist) (Sl.all c0) (Sl.all c2) (Sl.all c4) (Sl.all c6) c7) ?_
       rintro f4 bq ⟨aP, a9, rfl, c8, fk, fl, fm⟩
       obtain ⟨ba, fK, aG, aU⟩ := adoptE I (fun k => if ob aP = some k then 12 else if ob a9 = some k then 13 else 1) c8
       have c9 : OwnSl 12 Rep.u 33 ba bq aP T.Pos.Counts := RowF.adopt 12 Flat.u fk aG (fun k hk => if_pos hk)
       have da : OwnSl 13 Rep.u 33 ba bq a9 T.Neg.Counts := RowF.adopt 13 Flat.u fl aG (fun k hk => (if_neg (fun (e : ob aP = some k) => fm k e hk)).trans (if_pos hk))
       refine nl (At.dq (su_ aU z) (WD.y 7 z (by kernel_rfl) (fun _ _ _ => ym z) z (WD.y 8 z (by kernel_rfl) (fun _ _ _ => yx z z) z (WD.y 9 z (by kernel_rfl) (fun _ _ _ => yx z z) z (WD.heavy 10 z (by kernel_rfl) (WL.alloc (O := ba) 14 hzr ty38 z z ?_))))))
       intro fn gj f5 V db
       refine nl (At.dq (su_ V z) ?_)
       obtain ⟨gk, W, dc⟩ := Blk.rlb 1001 rfl db
       have de := (c9.st V z z z).st W z z z
       obtain ⟨gl, X, df⟩ := OwnSl.rlb 1002 rfl de
       have di := ((da.st V z z z).st W z z z).st X z z z
       obtain ⟨fo, Z, dj⟩ := OwnSl.rlb 1003 rfl di
       have dl := (dc.st X z).st Z z
       have dm := df.st Z z z z
       refine WD.own (tr_ (su_ W z) (tr_ (su_ X z) (su_ Z z))) (WD.perm _ [10, 9, 8, 7, 6, 5, 4, 3, 2, 1, 0] (by kernel_rfl) ?_)
       exact bp (T.Scale, T.Zero, T.Pos.Offset, T.Pos.Counts, T.Neg.Offset, T.Neg.Counts, fj, fo, fn, aP, a9) _ _ _ ⟨some1 h, (tr_ (su_ aU z) (tr_ (su_ V z) (tr_ (su_ W z) (tr_ (su_ X z) (su_ Z z))))), dl, dm, dj, z⟩ (.cons z (.cons z (.cons z (.cons z .nil))))
      ·try simp only [Option.bind_assoc] at h
       try simp only [Option.bind_some] at h
       refine WL.alloc (O := I) 15 hzr ty38 z z ?_
       intro fp fq f6 K dn
       refine nl (At.dq (su_ K z) (WD.heavy 6 z (by kernel_rfl) ?_))
       have ds := ((L.i d z z).i l z z).i K z z
       have dw := ((M.i d z z).i l z z).i K z z
       have dz := ((aW.i d z z).i l z z).i K z z
       have dC := ((aX.i d z z).i l z z).i K z z
       obtain ⟨⟨U, fs⟩, dD, h⟩ := bnd h
       refine WL.call (vals := [ag (hl a0.Hist v0_13 v0_15), ag (hl a1.Hist (vl bf bg bh) (vl bi bj bk)), vi 160]) kok92 z z (c_tocum_Together (A := fun _ => True) (a0 := a0.Hist) (a1 := a1.Hist) (Sl.all ds) (Sl.all dw) (Sl.all dz) (Sl.all dC) dD) ?_
       rintro f7 br ⟨aQ, bb, rfl, dE, ft, fu, fv⟩
       obtain ⟨bF, fL, aH, aF⟩ := adoptE fq (fun k => if ob aQ = some k then 16 else if ob bb = some k then 17 else 1) dE
       have dF : OwnSl 16 Rep.u 33 bF br aQ U.Pos.Counts := RowF.adopt 16 Flat.u ft aH (fun k hk => if_pos hk)
       have dG : OwnSl 17 Rep.u 33 bF br bb U.Neg.Counts := RowF.adopt 17 Flat.u fu aH (fun k hk => (if_neg (fun (e : ob aQ = some k) => fv k e hk)).trans (if_pos hk))
       refine nl (At.dq (su_ aF z) (WD.y 7 z (by kernel_rfl) (fun _ _ _ => ym z) z (WD.y 8 z (by kernel_rfl) (fun _ _ _ => yx z z) z (WD.y 9 z (by kernel_rfl) (fun _ _ _ => yx z z) z ?_))))
       have dH := dn.st aF z
       obtain ⟨gm, aa, dI⟩ := Blk.rlb 1001 rfl dH
       have dJ := dF.st aa z z z
       obtain ⟨gn, ab, dK⟩ := OwnSl.rlb 1002 rfl dJ
       have dM := (dG.st aa z z z).st ab z z z
       obtain ⟨fw, ac, dN⟩ := OwnSl.rlb 1003 rfl dM
       have dP := (dI.st ab z).st ac z
       have dQ := dK.st ac z z z
       refine WD.own (tr_ (su_ aa z) (tr_ (su_ ab z) (su_ ac z))) (WD.perm _ [10, 9, 8, 7, 6, 5, 4, 3, 2, 1, 0] (by kernel_rfl) ?_)
       exact bp (U.Scale, U.Zero, U.Pos.Offset, U.Pos.Counts, U.Neg.Offset, U.Neg.Counts, fs, fw, fp, aQ, bb) _ _ _ ⟨some1 h, (tr_ (su_ K z) (tr_ (su_ aF z) (tr_ (su_ aa z) (tr_ (su_ ab z) (su_ ac z))))), dP, dQ, dN, z⟩ (.cons z (.cons z (.cons z (.cons z .nil))))
     ·rintro ⟨ah, ai, aj, gp, ak, gq, fx, fy, fz, fA, fB⟩ _ f8 ⟨rfl, F, bs, aR, aS, rfl⟩
      replace h := cY
      try dsimp only at h F bs aR aS
      refine (show WD _ _ _ _ _ _ _ _ [(0, pt b0 0), (6, pt fz 0), (107, ag [vi ah, vu ai, vi aj, fA, vi ak, fB]), (108, vB fx)] _ _ from ?_)
      refine WD.heavy 11 z (by kernel_rfl) ?_
      have dR := h
      obtain ⟨al, am, an, rfl⟩ := aR.shape
      have h := dR
      have dS := h
      obtain ⟨ao, ap, aq, rfl⟩ := aS.shape
      have h := dS
      refine WL.store (v := ag [vi ah, vu ai, vi aj, (vl al am an), vi ak, (vl ao ap aq)]) (cells' := [vi ah, vu ai, vi aj, (vl al am an), vi ak, (vl ao ap aq)]) ty38 z z bs z (le_ z) z z ?_
      intro dT o dU
      refine nl (At.dq (su_ o z) (WD.y 12 z (by kernel_rfl) (fun _ _ _ => ya z) z (WD.done_ (by kernel_rfl) (th (sq (sq (rg (wY (ym z) z (wY (Y.not z) z ?_)))))))))
      refine nl (th ?_)
      rcases cnd h with ⟨aT, h⟩ | ⟨aT, h⟩
      ·refine WC.condT' z aT (sq (rg (wY (ya z) z (nl (th (rt (At.thenR (At.inBlockR (At.thenR ?_)))))))))
       obtain ⟨rfl, rfl⟩ := tup2 h
       have az : Stp [12, 13, 14, 15, 16, 17, 1001] (Lg.OB b0 3 (Lg.O0 A)) w fy dT := (tr_ (su_ d z) (tr_ (su_ l z) (tr_ (su_ F z) (su_ o z))))
       have dX := ((H.st l z).st F z).st o z
       have d1 := (((P.i d z z).i l z z).i F z z).i o z z
       have d5 := (((L.i d z z).i l z z).i F z z).i o z z
       have d9 := (((M.i d z z).i l z z).i F z z).i o z z
       exact At.res (.inl z) z (.tmp z .nil) ⟨v0_1, v0_13, v0_15, z, (Stp.modL az sB1 z z), (Sl.outI d1 az (lowB low0 z z) (aB (ℓ := 3) O0_A z)), (Sl.outI d5 az (lowB low0 z z) (aB (ℓ := 3) O0_A z)), (Sl.outI d9 az (lowB low0 z z) (aB (ℓ := 3) O0_A z)), dX.blk⟩
      ·refine WC.condF' z aT (sk (th (rg (wY (ym z) z (wY (yL ty38 z z (dU.cells 0 [vi ah, vu ai, vi aj, (vl al am an), vi ak, (vl ao ap aq)] z) z) z (wY (yn z) z (wY (yf fo40_10 z) z ?_)))))))
       have ec := ((H.st l z).st F z).st o z
       refine WL.store (v := ag [vi ah, vu ai, vi aj, (vl al am an), vi ak, (vl ao ap aq)]) (cells' := [vs a0.Name, v0_1, vi a0.Kind, vi a0.Temp, vB a0.Mono, vi a0.Start, vi a0.Time, vi a0.Int_, vu a0.Re, vu a0.Im, vi ah, vu ai, vi aj, (vl al am an), vi ak, (vl ao ap aq), vi a0.Flags]) ty38 z z ec z (le_ z) z z ?_
       intro ed ad ee
       refine nl (At.inBlock (th (sq (rg (wY (ya z) z (nl (th (rt ?_))))))))
       obtain ⟨rfl, rfl⟩ := tup2 h
       have eg := (aR.st o z z z).st ad z z z
       obtain ⟨gr, ae, eh⟩ := OwnSl.giveF rfl Flat.u eg
       have ek := ((aS.st o z z z).st ad z z z).st ae z z z
       obtain ⟨fC, af, em⟩ := OwnSl.giveF rfl Flat.u ek
       have aA : Stp [3, 12, 13, 14, 15, 16, 17, 1001, 1002, 1003] (Lg.OB b0 3 (Lg.O0 A)) w fC ed := (tr_ (su_ d z) (tr_ (su_ l z) (tr_ (su_ F z) (tr_ (su_ o z) (tr_ (su_ ad z) (tr_ (su_ ae z) (su_ af z)))))))
       have eo := (ee.st ae z).st af z
       have ey := ((((((P.i d z z).i l z z).i F z z).i o z z).i ad z z).i ae z z).i af z z
       have ez := eh.f af z
       exact At.res (.inl z) z (.tmp z .nil) ⟨v0_1, (vl al am an), (vl ao ap aq), z, (Stp.modL aA sB1 z z), (Sl.outI ey aA (lowB low0 z z) (aB (ℓ := 3) O0_A z)), (Sl.outI (Sl.mono ez frs_imm) aA (lowB low0 z z) (aB (ℓ := 3) O0_A z)), (Sl.outI (Sl.mono em frs_imm) aA (lowB low0 z z) (aB (ℓ := 3) O0_A z)), eo.blk⟩
    ·refine WC.condF' z aO (sk (At.inBlock (th (sq (rg (wY (ya z) z (nl (th (rt ?_)))))))))
     obtain ⟨rfl, rfl⟩ := tup2 h
     have aC : Stp [] (Lg.OB b0 3 (Lg.O0 A)) w I eJ := (su_ d z)
     have eA := P.i d z z
     have eB := L.i d z z
     have eC := M.i d z z
     exact At.res (.inl z) z (.tmp z .nil) ⟨v0_1, v0_13, v0_15, z, (Stp.modL aC sB1 z z), (Sl.outI eA aC (lowB low0 z z) (aB (ℓ := 3) O0_A z)), (Sl.outI eB aC (lowB low0 z z) (aB (ℓ := 3) O0_A z)), (Sl.outI eC aC (lowB low0 z z) (aB (ℓ := 3) O0_A z)), H.blk⟩
end Go.Lg
