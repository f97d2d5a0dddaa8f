/- The walks of RollupSums and of what it calls, printed by gen.py. -/
import Derived.Test.YtihlealbhlgikaaRsLgRtWRollupSumsx2
set_option linter.unusedVariables false
namespace Go.Lg
open Go Go.Proofs
set_option maxRecDepth 100000
set_option maxHeartbeats 4000000
theorem c_law36_RollupSums {A : Nat → Prop} {a0 : List api_Point} {v0 : Value} {a1 : Int} {w : World} (hs0 : Sl rep_api_Point w A v0 a0) {r0 : Bool} (h : law36_RollupSums a0 a1 = some r0) : Rets Try.prog 4 [v0, vi a1] w (fun v w' => v = vB r0 ∧ Ext w w') := by
 unfold law36_RollupSums at h
 refine Rets.enter Try.func4 z z ?_
 have ls : Sl rep_api_Point w (imm (Lg.O0 A)) v0 a0 := (Sl.start hs0)
 refine (show WC _ _ _ _ [(0, v0), (1, vi a1)] _ from ?_)
 refine sq (rg (wY (ya z) z (nl (th (sq (sq (rg ?_)))))))
 obtain ⟨rr, lu, h⟩ := bnd h
 refine WL.call (vals := []) kok6 z z (c_law36_awake lu) ?_
 rintro qy lv ⟨rfl, lw⟩
 obtain ⟨lr, nR, nS, j⟩ := adoptE (Lg.O0 A) (fun k => 1) lw
 refine wY (Y.not z) z (nl (th ?_))
 rcases cnd h with ⟨dc, h⟩ | ⟨dc, h⟩
 ·refine WC.condT' z dc (sq (rg (wY (ya z) z (nl (th (rt (At.thenR ?_)))))))
  obtain rfl := some1 h
  have lx : Stp [] (Lg.O0 A) w lr lv := (su_ j z)
  exact At.res (.inl z) z (.tmp z .nil) ⟨z, (se_ lx z z)⟩
 ·refine WC.condF' z dc (sk (th (sq (sq (rg (wY (ym z) z ?_))))))
  have ef := ls.i j z z
  obtain ⟨rs, ly, h⟩ := bnd h
  refine WL.call (vals := [v0, vi 20]) kok7 z z (c_ref12_Some (A := fun _ => True) (Sl.all ef) ly) ?_
  rintro qz lA ⟨rfl, lB⟩
  obtain ⟨dz, nT, nU, m⟩ := adoptE lr (fun k => 1) lB
  refine wY (Y.not z) z (nl (th ?_))
  rcases cnd h with ⟨dd, h⟩ | ⟨dd, h⟩
  ·refine WC.condT' z dd (sq (rg (wY (ya z) z (nl (th (rt (At.thenR ?_)))))))
   obtain rfl := some1 h
   have lC : Stp [] (Lg.O0 A) w dz lA := (tr_ (su_ j z) (su_ m z))
   exact At.res (.inl z) z (.tmp z .nil) ⟨z, (se_ lC z z)⟩
  ·refine WC.condF' z dd (sk (th (sq (rg (wY (ym z) z (wY (ym z) z ?_))))))
   have eg := ef.i m z z
   obtain ⟨⟨ak, ru, rv⟩, lD, h⟩ := bnd h
   refine WL.call (vals := [v0, vi a1]) kok8 z z (c_rollup_Roll (A := imm dz) eg lD) ?_
   rintro qA de ⟨c, rfl, lE, nV⟩
   obtain ⟨L, eh, ei, n⟩ := adoptE dz (fun k => 1) lE
   have S : Sl rep_api_Point de (imm L) c ak := Sl.adoptI (O := dz) nV (fun _ hk => hk) (fun _ _ => Nat.le_refl _) eh ei
   refine wY (ym z) z (wY (yx z z) z (wY (yx z z) z (wY (yx z z) z (wY (ya z) z (wY (ya z) z (wY (ya z) z (nl (th (sq ?_)))))))))
   refine sq (rg (wY (ym z) z (wY (Y.neq_i z z) z (nl (th ?_)))))
   rcases cnd h with ⟨df, h⟩ | ⟨df, h⟩
   ·refine WC.condT' z df (sq (rg (wY (ym z) z (wY (Y.len ty22 z S) z (wY (Y.eql_i z z) z ?_)))))
    obtain ⟨rx, lF, h⟩ := lt1 h
    refine WL.yE (ya z) (congrArg vB lF.symm) z (nl (th (rt (At.thenR ?_))))
    obtain rfl := some1 h
    have lG : Stp [] (Lg.O0 A) w L de := (tr_ (su_ j z) (tr_ (su_ m z) (su_ n z)))
    exact At.res (.inl z) z (.tmp z .nil) ⟨z, (se_ lG z z)⟩
   ·refine WC.condF' z df (sk (th (sq (sq (rg (wY (ym z) z ?_))))))
    have aY := eg.i n z z
    refine wY (Y.len ty22 z aY) z (wY (Y.eql_i z z) z (nl (th ?_)))
    rcases cnd h with ⟨dg, h⟩ | ⟨dg, h⟩
    ·refine WC.condT' z dg (sq (rg (wY (ym z) z (wY (Y.len ty22 z S) z (wY (Y.eql_i z z) z ?_)))))
     obtain ⟨ry, lH, h⟩ := lt1 h
     refine WL.yE (ya z) (congrArg vB lH.symm) z (nl (th (rt (At.thenR ?_))))
     obtain rfl := some1 h
     have lI : Stp [] (Lg.O0 A) w L de := (tr_ (su_ j z) (tr_ (su_ m z) (su_ n z)))
     exact At.res (.inl z) z (.tmp z .nil) ⟨z, (se_ lI z z)⟩
    ·refine WC.condF' z dg (sk (th (sq (sq (WC.drawH [] [0, 1, 2, 3, 4, 5, 6, 7, 8, 9, 10, 11, 12, 13, 14, 15, 16, 17, 18, 19, 20, 21, 22, 23, 24, 25, 26, 27, 28, 29, 30, 31, 32, 33, 34, 35, 36, 37, 38, 39, 40, 41, 42, 43, 44] L 45 fmix z (by kernel_rfl) ?_)))))
     intro ae d
     refine WD.y 0 z (by kernel_rfl) (fun _ _ _ => ym z) z (WD.y 1 z (by kernel_rfl) (fun qB rz hw => have lJ := S.i d z z; have lK := lJ.i hw z z; Y.len ty22 z lK) z (WD.y 2 z (by kernel_rfl) (fun _ _ _ => Y.eql_i z z) z (WD.y 3 z (by kernel_rfl) (fun _ _ _ => ym z) z ?_)))
     refine WD.join (σ := Unit) (f' := 35) [9, 8, 7, 6, 5, 4, 3, 2, 1, 0] (fun _ O' w' => L = O' ∧ ae = w') (fun _ => [(0, v0), (5, c), (58, vB ((decide ((ak.length : Int) = 0)) || (decide ((a0.length : Int) < (ak.length : Int)))))]) (fun ej => ?_) ?_
     ·refine WD.part 52 z (fun dh => ?_) (fun dh => ?_)
      ·refine WD.gS 4 z (by kernel_rfl) z z z z (WD.gS 5 z (by kernel_rfl) z z z z (WD.gS 6 z (by kernel_rfl) z z z z (WD.gS 7 z (by kernel_rfl) z z z z (WD.gS 8 z (by kernel_rfl) z z z z (WD.y 9 z (by kernel_rfl) (fun _ _ _ => Y.pick (b := true) z z) z (WD.ren (v' := vB ((decide ((ak.length : Int) = 0)) || (decide ((a0.length : Int) < (ak.length : Int))))) 58 z (congrArg vB (orT dh)) ?_))))))
       exact ej () _ _ _ ⟨z, z⟩ (.cons z (.cons z (.cons z .nil)))
      ·refine WD.gT 4 z (by kernel_rfl) z z (fun _ _ _ => ym z) z (WD.gT 5 z (by kernel_rfl) z z (fun qC rA hx => have lL := S.i d z z; have lM := lL.i hx z z; Y.len ty22 z lM) z (WD.gT 6 z (by kernel_rfl) z z (fun _ _ _ => ym z) z (WD.gT 7 z (by kernel_rfl) z z (fun qD rD hy => have lN := aY.i d z z; have lO := lN.i hy z z; Y.len ty22 z lO) z (WD.gT 8 z (by kernel_rfl) z z (fun _ _ _ => Y.gtr_i z z) z (WD.y 9 z (by kernel_rfl) (fun _ _ _ => Y.pick (b := false) z z) z (WD.ren (v' := vB ((decide ((ak.length : Int) = 0)) || (decide ((a0.length : Int) < (ak.length : Int))))) 58 z (congrArg vB (orF dh)) ?_))))))
       exact ej () _ _ _ ⟨z, z⟩ (.cons z (.cons z (.cons z .nil)))
     ·rintro _ _ _ ⟨rfl, rfl⟩
      refine (show WD _ _ _ _ _ _ _ _ [(0, v0), (5, c), (58, vB ((decide ((ak.length : Int) = 0)) || (decide ((a0.length : Int) < (ak.length : Int)))))] _ _ from ?_)
      refine WD.y 10 z (by kernel_rfl) (fun _ _ _ => ym z) z ?_
      obtain ⟨lP, h, hz⟩ := bnd h
      refine WD.join (σ := Bool) (f' := 18) [26, 25, 24, 23, 22, 21, 20, 19, 18, 17, 16, 15, 14, 13, 12, 11, 10, 9, 8, 7, 6, 5, 4, 3, 2, 1, 0] (fun x O' w' => x = lP ∧ ae = w' ∧ L = O') (fun x => [(0, v0), (5, c), (75, vB x)]) (fun dA => ?_) ?_
      ·rcases cnd h with ⟨aI, h⟩ | ⟨aI, h⟩
       ·refine WD.ren 59 z (congrArg vB aI) (WD.gS 11 z (by kernel_rfl) z z z z (WD.gS 12 z (by kernel_rfl) z z z z (WD.gS 13 z (by kernel_rfl) z z z z (WD.gS 14 z (by kernel_rfl) z z z z (WD.gS 15 z (by kernel_rfl) z z z z (WD.gS 16 z (by kernel_rfl) z z z z (WD.gS 17 z (by kernel_rfl) z z z z (WD.gS 18 z (by kernel_rfl) z z z z (WD.gS 19 z (by kernel_rfl) z z z z ?_)))))))))
        refine WD.gS 20 z (by kernel_rfl) z z z z (WD.gS 21 z (by kernel_rfl) z z z z (WD.gS 22 z (by kernel_rfl) z z z z (WD.gS 23 z (by kernel_rfl) z z z z (WD.gS 24 z (by kernel_rfl) z z z z (WD.gS 25 z (by kernel_rfl) z z z z (WD.y 26 z (by kernel_rfl) (fun _ _ _ => Y.pick (b := true) z z) z (WD.ren 59 z (congrArg vB aI.symm) ?_)))))))
        exact dA true _ _ _ ⟨some1 h, z, z⟩ (.cons z (.cons z (.cons z .nil)))
       ·refine WD.ren 59 z (congrArg vB aI) (WD.gT 11 z (by kernel_rfl) z z (fun _ _ _ => ym z) z (WD.gT 12 z (by kernel_rfl) z z (fun _ _ _ => ym z) z (WD.gT 13 z (by kernel_rfl) z z (fun oQ qE ek => have hA := S.i d z z; have hC := hA.i ek z z; Y.len ty22 z hC) z (WD.gT 14 z (by kernel_rfl) z z (fun _ _ _ => Y.sub_i z z) z ?_))))
        obtain ⟨di, hD, h⟩ := bnd h
        have hE := S.i d z z
        obtain ⟨qF, nW, nX, oR, hF, hG, hH, bM, em, hI⟩ := Sl.at2 hE hD
        obtain ⟨_, _, rfl, rfl, ⟨_, _, rfl, ⟨lQ, rfl, oS⟩, ⟨_, _, rfl, rfl, ⟨_, _, rfl, rfl, ⟨_, _, rfl, rfl, ⟨_, _, rfl, rfl, ⟨_, _, rfl, rfl, ⟨_, _, rfl, rfl, ⟨_, _, rfl, rfl, ⟨_, _, rfl, rfl, ⟨_, _, rfl, ⟨_, _, rfl, rfl, ⟨_, _, rfl, rfl, ⟨_, _, rfl, ⟨_, _, rfl, rfl, ⟨lR, rfl, oT⟩⟩, ⟨_, _, rfl, rfl, ⟨lS, rfl, oU⟩⟩⟩⟩⟩, rfl⟩⟩⟩⟩⟩⟩⟩⟩⟩⟩⟩ := em
        replace bM : CellsAt _ _ _ (cp di lQ lR lS) := bM
        have en := CAt.imm bM hI
        refine WD.gT 15 z (by kernel_rfl) z z (fun _ _ _ => Y.indexAddr ty22 ty33 z hF z hG hH) z (WD.gT 16 z (by kernel_rfl) z z (fun _ _ _ => yf fo33_6 z) z (WD.gT 17 z (by kernel_rfl) z z (fun oV qG eo => have hJ := en.st eo z; yl ty3 z z (hJ.at_.sub 6 [vi di.Time] z)) z (WD.gT 18 z (by kernel_rfl) z z (fun _ _ _ => ym z) z (WD.gT 19 z (by kernel_rfl) z z (fun _ _ _ => ym z) z (WD.gT 20 z (by kernel_rfl) z z (fun oW qH ep => have hK := aY.i d z z; have hL := hK.i ep z z; Y.len ty22 z hL) z (WD.gT 21 z (by kernel_rfl) z z (fun _ _ _ => Y.sub_i z z) z ?_))))))
        obtain ⟨dj, hM, h⟩ := bnd h
        have hN := aY.i d z z
        obtain ⟨qI, nY, nZ, oX, hO, hP, hQ, bO, er, hR⟩ := Sl.at2 hN hM
        obtain ⟨_, _, rfl, rfl, ⟨_, _, rfl, ⟨lT, rfl, oY⟩, ⟨_, _, rfl, rfl, ⟨_, _, rfl, rfl, ⟨_, _, rfl, rfl, ⟨_, _, rfl, rfl, ⟨_, _, rfl, rfl, ⟨_, _, rfl, rfl, ⟨_, _, rfl, rfl, ⟨_, _, rfl, rfl, ⟨_, _, rfl, ⟨_, _, rfl, rfl, ⟨_, _, rfl, rfl, ⟨_, _, rfl, ⟨_, _, rfl, rfl, ⟨lU, rfl, oZ⟩⟩, ⟨_, _, rfl, rfl, ⟨lV, rfl, o0⟩⟩⟩⟩⟩, rfl⟩⟩⟩⟩⟩⟩⟩⟩⟩⟩⟩ := er
        replace bO : CellsAt _ _ _ (cp dj lT lU lV) := bO
        have es := CAt.imm bO hR
        refine WD.gT 22 z (by kernel_rfl) z z (fun _ _ _ => Y.indexAddr ty22 ty33 z hO z hP hQ) z (WD.gT 23 z (by kernel_rfl) z z (fun _ _ _ => yf fo33_6 z) z (WD.gT 24 z (by kernel_rfl) z z (fun o1 qJ et => have hS := es.st et z; yl ty3 z z (hS.at_.sub 6 [vi dj.Time] z)) z (WD.gT 25 z (by kernel_rfl) z z (fun _ _ _ => Y.neq_i z z) z (WD.y 26 z (by kernel_rfl) (fun _ _ _ => Y.pick (b := false) z z) z (WD.ren 59 z (congrArg vB aI.symm) ?_)))))
        exact dA (!decide (di.Time = dj.Time)) _ _ _ ⟨some1 h, z, z⟩ (.cons z (.cons z (.cons z .nil)))
      ·rintro lW _ _ ⟨rfl, rfl, rfl⟩
       replace h := hz
       try dsimp only at h
       refine (show WD _ _ _ _ _ _ _ _ [(0, v0), (5, c), (75, vB lW)] _ _ from ?_)
       refine WD.y 27 z (by kernel_rfl) (fun _ _ _ => ym z) z ?_
       obtain ⟨lX, h, hT⟩ := bnd h
       refine WD.join (σ := Bool) (f' := 0) [44, 43, 42, 41, 40, 39, 38, 37, 36, 35, 34, 33, 32, 31, 30, 29, 28, 27, 26, 25, 24, 23, 22, 21, 20, 19, 18, 17, 16, 15, 14, 13, 12, 11, 10, 9, 8, 7, 6, 5, 4, 3, 2, 1, 0] (fun x O' w' => x = lX ∧ ae = w' ∧ L = O') (fun x => [(0, v0), (5, c), (93, vB x)]) (fun dB => ?_) ?_
       ·rcases cnd h with ⟨aJ, h⟩ | ⟨aJ, h⟩
        ·refine WD.ren 76 z (congrArg vB aJ) (WD.gS 28 z (by kernel_rfl) z z z z (WD.gS 29 z (by kernel_rfl) z z z z (WD.gS 30 z (by kernel_rfl) z z z z (WD.gS 31 z (by kernel_rfl) z z z z (WD.gS 32 z (by kernel_rfl) z z z z (WD.gS 33 z (by kernel_rfl) z z z z (WD.gS 34 z (by kernel_rfl) z z z z (WD.gS 35 z (by kernel_rfl) z z z z (WD.gS 36 z (by kernel_rfl) z z z z ?_)))))))))
         refine WD.gS 37 z (by kernel_rfl) z z z z (WD.gS 38 z (by kernel_rfl) z z z z (WD.gS 39 z (by kernel_rfl) z z z z (WD.gS 40 z (by kernel_rfl) z z z z (WD.gS 41 z (by kernel_rfl) z z z z (WD.gS 42 z (by kernel_rfl) z z z z (WD.gS 43 z (by kernel_rfl) z z z z (WD.y 44 z (by kernel_rfl) (fun _ _ _ => Y.pick (b := true) z z) z (WD.ren 76 z (congrArg vB aJ.symm) ?_))))))))
         exact dB true _ _ _ ⟨some1 h, z, z⟩ (.cons z (.cons z (.cons z .nil)))
        ·refine WD.ren 76 z (congrArg vB aJ) (WD.gT 28 z (by kernel_rfl) z z (fun _ _ _ => ym z) z ?_)
         obtain ⟨eu, hU, h⟩ := bnd h
         have dC := aY.i d z z
         obtain ⟨qK, n0, n3, o2, hV, hW, hX, bP, ew, hY⟩ := Sl.at2 dC hU
         obtain ⟨_, _, rfl, rfl, ⟨_, _, rfl, ⟨lY, rfl, o3⟩, ⟨_, _, rfl, rfl, ⟨_, _, rfl, rfl, ⟨_, _, rfl, rfl, ⟨_, _, rfl, rfl, ⟨_, _, rfl, rfl, ⟨_, _, rfl, rfl, ⟨_, _, rfl, rfl, ⟨_, _, rfl, rfl, ⟨_, _, rfl, ⟨_, _, rfl, rfl, ⟨_, _, rfl, rfl, ⟨_, _, rfl, ⟨_, _, rfl, rfl, ⟨lZ, rfl, o4⟩⟩, ⟨_, _, rfl, rfl, ⟨l0, rfl, o5⟩⟩⟩⟩⟩, rfl⟩⟩⟩⟩⟩⟩⟩⟩⟩⟩⟩ := ew
         replace bP : CellsAt _ _ _ (cp eu lY lZ l0) := bP
         have ex := CAt.imm bP hY
         refine WD.gT 29 z (by kernel_rfl) z z (fun _ _ _ => Y.indexAddr ty22 ty33 z hV z hW hX) z (WD.gT 30 z (by kernel_rfl) z z (fun _ _ _ => yf fo33_2 z) z (WD.gT 31 z (by kernel_rfl) z z (fun o6 qL ey => have hZ := ex.st ey z; yl ty3 z z (hZ.at_.sub 2 [vi eu.Kind] z)) z (WD.gT 32 z (by kernel_rfl) z z (fun _ _ _ => Y.neq_i z z) z (WD.gT 33 z (by kernel_rfl) z z (fun _ _ _ => ym z) z ?_))))
         obtain ⟨l1, h, h0⟩ := bnd h
         refine WD.join (σ := Bool) (f' := 1) [43, 42, 41, 40, 39, 38, 37, 36, 35, 34, 33, 32, 31, 30, 29, 28, 27, 26, 25, 24, 23, 22, 21, 20, 19, 18, 17, 16, 15, 14, 13, 12, 11, 10, 9, 8, 7, 6, 5, 4, 3, 2, 1, 0] (fun x O' w' => x = l1 ∧ ae = w' ∧ L = O') (fun x => [(0, v0), (5, c), (76, vB false), (92, vB x)]) (fun dD => ?_) ?_
         ·rcases cnd h with ⟨aK, h⟩ | ⟨aK, h⟩
          ·refine WD.ren 82 z (congrArg vB aK) (WD.gT 34 z (by kernel_rfl) z z (fun _ _ _ => ym z) z ?_)
           obtain ⟨dk, h1, h⟩ := bnd h
           have h2 := S.i d z z
           obtain ⟨qM, n4, n5, o7, h3, h4, h5, bQ, ez, h6⟩ := Sl.at2 h2 h1
           obtain ⟨_, _, rfl, rfl, ⟨_, _, rfl, ⟨l2, rfl, o8⟩, ⟨_, _, rfl, rfl, ⟨_, _, rfl, rfl, ⟨_, _, rfl, rfl, ⟨_, _, rfl, rfl, ⟨_, _, rfl, rfl, ⟨_, _, rfl, rfl, ⟨_, _, rfl, rfl, ⟨_, _, rfl, rfl, ⟨_, _, rfl, ⟨_, _, rfl, rfl, ⟨_, _, rfl, rfl, ⟨_, _, rfl, ⟨_, _, rfl, rfl, ⟨l3, rfl, o9⟩⟩, ⟨_, _, rfl, rfl, ⟨l4, rfl, pa⟩⟩⟩⟩⟩, rfl⟩⟩⟩⟩⟩⟩⟩⟩⟩⟩⟩ := ez
           replace bQ : CellsAt _ _ _ (cp dk l2 l3 l4) := bQ
           have eA := CAt.imm bQ h6
           refine WD.gT 35 z (by kernel_rfl) z z (fun _ _ _ => Y.indexAddr ty22 ty33 z h3 z h4 h5) z (WD.gT 36 z (by kernel_rfl) z z (fun _ _ _ => yf fo33_5 z) z (WD.gT 37 z (by kernel_rfl) z z (fun pb qN eB => have h7 := eA.st eB z; yl ty3 z z (h7.at_.sub 5 [vi dk.Start] z)) z (WD.gT 38 z (by kernel_rfl) z z (fun _ _ _ => ym z) z ?_)))
           obtain ⟨dl, h8, h⟩ := bnd h
           obtain ⟨qO, n6, n7, pc, h9, ia, ib, bR, eC, ic⟩ := Sl.at2 dC h8
           obtain ⟨_, _, rfl, rfl, ⟨_, _, rfl, ⟨l5, rfl, pd⟩, ⟨_, _, rfl, rfl, ⟨_, _, rfl, rfl, ⟨_, _, rfl, rfl, ⟨_, _, rfl, rfl, ⟨_, _, rfl, rfl, ⟨_, _, rfl, rfl, ⟨_, _, rfl, rfl, ⟨_, _, rfl, rfl, ⟨_, _, rfl, ⟨_, _, rfl, rfl, ⟨_, _, rfl, rfl, ⟨_, _, rfl, ⟨_, _, rfl, rfl, ⟨l6, rfl, pe⟩⟩, ⟨_, _, rfl, rfl, ⟨l7, rfl, pf⟩⟩⟩⟩⟩, rfl⟩⟩⟩⟩⟩⟩⟩⟩⟩⟩⟩ := eC
           replace bR : CellsAt _ _ _ (cp dl l5 l6 l7) := bR
           have eD := CAt.imm bR ic
           refine WD.gT 39 z (by kernel_rfl) z z (fun _ _ _ => Y.indexAddr ty22 ty33 z h9 z ia ib) z (WD.gT 40 z (by kernel_rfl) z z (fun _ _ _ => yf fo33_5 z) z (WD.gT 41 z (by kernel_rfl) z z (fun pg qP eE => have ie := eD.st eE z; yl ty3 z z (ie.at_.sub 5 [vi dl.Start] z)) z (WD.gT 42 z (by kernel_rfl) z z (fun _ _ _ => Y.neq_i z z) z (WD.gT 43 z (by kernel_rfl) z z (fun _ _ _ => Y.pick (b := true) z z) z (WD.ren 82 z (congrArg vB aK.symm) ?_)))))
           exact dD (!decide (dk.Start = dl.Start)) _ _ _ ⟨some1 h, z, z⟩ (.cons z (.cons z (.cons z (.cons z .nil))))
          ·refine WD.ren 82 z (congrArg vB aK) (WD.gS 34 z (by kernel_rfl) z z z z (WD.gS 35 z (by kernel_rfl) z z z z (WD.gS 36 z (by kernel_rfl) z z z z (WD.gS 37 z (by kernel_rfl) z z z z (WD.gS 38 z (by kernel_rfl) z z z z (WD.gS 39 z (by kernel_rfl) z z z z (WD.gS 40 z (by kernel_rfl) z z z z (WD.gS 41 z (by kernel_rfl) z z z z (WD.gS 42 z (by kernel_rfl) z z z z ?_)))))))))
           refine WD.gT 43 z (by kernel_rfl) z z (fun _ _ _ => Y.pick (b := false) z z) z (WD.ren 82 z (congrArg vB aK.symm) ?_)
           exact dD false _ _ _ ⟨some1 h, z, z⟩ (.cons z (.cons z (.cons z (.cons z .nil))))
         ·rintro eF _ _ ⟨rfl, rfl, rfl⟩
          replace h := h0
          try dsimp only at h
          refine (show WD _ _ _ _ _ _ _ _ [(0, v0), (5, c), (76, vB false), (92, vB eF)] _ _ from ?_)
          refine WD.y 44 z (by kernel_rfl) (fun _ _ _ => Y.pick (b := false) z z) z (WD.ren 76 z (congrArg vB aJ.symm) ?_)
          exact dB eF _ _ _ ⟨some1 h, z, z⟩ (.cons z (.cons z (.cons z .nil)))
       ·rintro l8 _ _ ⟨rfl, rfl, rfl⟩
        replace h := hT
        try dsimp only at h
        refine (show WD _ _ _ _ _ _ _ _ [(0, v0), (5, c), (93, vB l8)] _ _ from ?_)
        refine WD.done_ (by kernel_rfl) (th ?_)
        rcases cnd h with ⟨bS, h⟩ | ⟨bS, h⟩
        ·refine WC.condT' z bS (sq (rg (wY (ya z) z (nl (th (rt (At.thenR ?_)))))))
         obtain rfl := some1 h
         have ig : Stp [] (Lg.O0 A) w L ae := (tr_ (su_ j z) (tr_ (su_ m z) (tr_ (su_ n z) (su_ d z))))
         exact At.res (.inl z) z (.tmp z .nil) ⟨z, (se_ ig z z)⟩
        ·refine WC.condF' z bS (sk (th (sq (sq (rg (wY (ym z) z ?_))))))
         obtain ⟨eG, ih, h⟩ := bnd h
         have bT := aY.i d z z
         obtain ⟨qQ, n9, oa, ph, ii, ij, ik, bU, eH, il⟩ := Sl.at2 bT ih
         obtain ⟨_, _, rfl, rfl, ⟨_, _, rfl, ⟨l9, rfl, pi⟩, ⟨_, _, rfl, rfl, ⟨_, _, rfl, rfl, ⟨_, _, rfl, rfl, ⟨_, _, rfl, rfl, ⟨_, _, rfl, rfl, ⟨_, _, rfl, rfl, ⟨_, _, rfl, rfl, ⟨_, _, rfl, rfl, ⟨_, _, rfl, ⟨_, _, rfl, rfl, ⟨_, _, rfl, rfl, ⟨_, _, rfl, ⟨_, _, rfl, rfl, ⟨ma, rfl, pj⟩⟩, ⟨_, _, rfl, rfl, ⟨mb, rfl, pk⟩⟩⟩⟩⟩, rfl⟩⟩⟩⟩⟩⟩⟩⟩⟩⟩⟩ := eH
         replace bU : CellsAt _ _ _ (cp eG l9 ma mb) := bU
         have eI := CAt.imm bU il
         refine wY (Y.indexAddr ty22 ty33 z ii z ij ik) z (wY (yf fo33_3 z) z (wY (yl ty3 z z (eI.at_.sub 3 [vi eG.Temp] z)) z (wY (Y.neq_i z z) z (nl (th ?_)))))
         rcases cnd h with ⟨bW, h⟩ | ⟨bW, h⟩
         ·refine WC.condT' z bW (sq (rg (wY (ya z) z (nl (th (rt (At.thenR ?_)))))))
          obtain rfl := some1 h
          have im : Stp [] (Lg.O0 A) w L ae := (tr_ (su_ j z) (tr_ (su_ m z) (tr_ (su_ n z) (su_ d z))))
          exact At.res (.inl z) z (.tmp z .nil) ⟨z, (se_ im z z)⟩
         ·refine WC.condF' z bW (sk (th (sq (rg (wY (ya z) z (wY (ya z) z (nl (th (sq ?_)))))))))
          refine sq (rg (wY (ya z) z (nl (th ?_))))
          obtain ⟨mc, h, dE⟩ := flow1 h
          refine WC.join (σ := (Int × Own)) (fun x w' => mc = .go x.1 ∧ Stp [] L ae x.2 w') (fun x => [(0, v0), (5, c), (8, vi x.1), (9, vi 0)]) ?_ ?_
          ·refine WC.block ?_
           obtain ⟨eJ, h, dF⟩ := flow1 h
           obtain ⟨eK, h⟩ := loop_some h
           refine WC.joinB 0 (σ := (Int × Own)) (fun x w' => eJ = .go x.1 ∧ Stp [] L ae x.2 w') (fun x => [(0, v0), (5, c), (8, vi x.1), (9, vi 0)]) ?_ ?_
           ·refine WC.loop (σ := (Int × Int × Own)) (fun x k w' => loopN k (law36_RollupSums_lp1 a0) (x.1, x.2.1) = some eJ ∧ Stp [] L ae x.2.2 w') (fun x => [(0, v0), (5, c), (8, vi x.1), (9, vi 0), (10, vi x.2.1)]) (0, 0, L) eK (.cons z (.cons z (.cons z (.cons z (.cons z .nil))))) ⟨h, (sr_ _ _ _)⟩ ?_
            rintro ⟨dm, md, eL⟩ eK pl ⟨h, al⟩
            obtain ⟨me, qR, rfl, h, bX⟩ := rnd1 h
            unfold law36_RollupSums_lp1 at h
            try dsimp only at h al
            refine (show WC _ _ _ _ [(0, v0), (5, c), (8, vi dm), (9, vi 0), (10, vi md)] _ from ?_)
            refine sq (sq (rg (wY (ym z) z (wY (ym z) z ?_))))
            have bY := bT.i al z z
            refine wY (Y.len ty22 z bY) z (wY (Y.lss_i z z) z (nl (th ?_)))
            rcases cnd h with ⟨bZ, h⟩ | ⟨bZ, h⟩
            ·refine WC.condT' z bZ (sk (th (sq (WC.block (sq (sq (rg (wY (ym z) z (wY (ym z) z ?_)))))))))
             refine wY (ym z) z ?_
             obtain ⟨dn, io, h⟩ := bnd h
             obtain ⟨qS, oc, od, pm, ip, iq, ir, b0, eM, it⟩ := Sl.at2 bY io
             obtain ⟨_, _, rfl, rfl, ⟨_, _, rfl, ⟨mf, rfl, pn⟩, ⟨_, _, rfl, rfl, ⟨_, _, rfl, rfl, ⟨_, _, rfl, rfl, ⟨_, _, rfl, rfl, ⟨_, _, rfl, rfl, ⟨_, _, rfl, rfl, ⟨_, _, rfl, rfl, ⟨_, _, rfl, rfl, ⟨_, _, rfl, ⟨_, _, rfl, rfl, ⟨_, _, rfl, rfl, ⟨_, _, rfl, ⟨_, _, rfl, rfl, ⟨mg, rfl, po⟩⟩, ⟨_, _, rfl, rfl, ⟨mh, rfl, pp⟩⟩⟩⟩⟩, rfl⟩⟩⟩⟩⟩⟩⟩⟩⟩⟩⟩ := eM
             replace b0 : CellsAt _ _ _ (cp dn mf mg mh) := b0
             have eN := CAt.imm b0 it
             refine wY (Y.indexAddr ty22 ty33 z ip z iq ir) z (wY (yf fo33_7 z) z (wY (yl ty3 z z (eN.at_.sub 7 [vi dn.Int_] z)) z ?_))
             obtain ⟨qT, iu, h⟩ := bnd h
             refine WL.call (vals := [vi dm, vi dn.Int_, vB false]) kok10 z z (c_ref15_Wide iu) ?_
             rintro pq iv ⟨rfl, iw⟩
             obtain ⟨eO, nK, nL, bo⟩ := adoptE eL (fun k => 1) iw
             refine nl (th ?_)
             rcases cnd h with ⟨b1, h⟩ | ⟨b1, h⟩
             ·refine WC.condT' z b1 (sq (rg (wY (ya z) z (nl (th (rt (At.thenR (At.inBlockR (At.thenR ?_)))))))))
              refine At.loopR ?_
              have h := outr1 h bX dF
              refine At.joinBR (At.inBlockR ?_)
              have h := outs1 h dE
              refine At.joinR (At.thenR ?_)
              obtain rfl := some1 h
              have ix : Stp [] (Lg.O0 A) w eO iv := (tr_ (su_ j z) (tr_ (su_ m z) (tr_ (su_ n z) (tr_ (su_ d z) (tr_ (su_ al z) (su_ bo z))))))
              exact At.res (.inl z) z (.tmp z .nil) ⟨z, (se_ ix z z)⟩
             ·refine WC.condF' z b1 (sk (th (rg (wY (ym z) z (wY (ym z) z (wY (ym z) z ?_))))))
              obtain ⟨eP, iy, h⟩ := bnd h
              have iz := bY.i bo z z
              obtain ⟨qU, oe, og, pr, iA, iB, iC, b2, eQ, iD⟩ := Sl.at2 iz iy
              obtain ⟨_, _, rfl, rfl, ⟨_, _, rfl, ⟨mi, rfl, ps⟩, ⟨_, _, rfl, rfl, ⟨_, _, rfl, rfl, ⟨_, _, rfl, rfl, ⟨_, _, rfl, rfl, ⟨_, _, rfl, rfl, ⟨_, _, rfl, rfl, ⟨_, _, rfl, rfl, ⟨_, _, rfl, rfl, ⟨_, _, rfl, ⟨_, _, rfl, rfl, ⟨_, _, rfl, rfl, ⟨_, _, rfl, ⟨_, _, rfl, rfl, ⟨mj, rfl, pu⟩⟩, ⟨_, _, rfl, rfl, ⟨ml, rfl, pw⟩⟩⟩⟩⟩, rfl⟩⟩⟩⟩⟩⟩⟩⟩⟩⟩⟩ := eQ
              replace b2 : CellsAt _ _ _ (cp eP mi mj ml) := b2
              have eR := CAt.imm b2 iD
              refine wY (Y.indexAddr ty22 ty33 z iA z iB iC) z (wY (yf fo33_7 z) z (wY (yl ty3 z z (eR.at_.sub 7 [vi eP.Int_] z)) z (wY (Y.add_i z z) z ?_)))
              obtain ⟨mm, iE, h⟩ := lt1 h
              refine WL.yE (ya z) (congrArg vi iE.symm) z (nl (At.inBlock (th (rg (wY (ym z) z (wY (Y.add_i z z) z ?_))))))
              obtain ⟨mn, iF, h⟩ := lt1 h
              refine WL.yE (ya z) (congrArg vi iF.symm) z (nl ?_)
              exact At.round (mm, mn, eO) me (Nat.lt_succ_self _) ⟨next1 h bX, (tr_ (su_ al z) (su_ bo z))⟩ (.cons z (.cons z (.cons z (.cons z (.cons z .nil)))))
            ·refine WC.condF' z bZ (WC.exit (At.thenX (At.loopX ?_)))
             exact At.hitB (σ := (Int × Own)) (dm, eL) ⟨brk1 h bX, (su_ al z)⟩ (.cons z (.cons z (.cons z (.cons z .nil))))
           ·rintro ⟨eS, mo⟩ px ⟨rfl, cV⟩
            replace h := flowK_go dF
            try dsimp only at h cV
            refine (show At _ _ _ [(0, v0), (5, c), (8, vi eS), (9, vi 0)] _ from ?_)
            refine At.inBlockHit ?_
            exact At.join (σ := (Int × Own)) (eS, mo) ⟨go2 h, (su_ cV z)⟩ (.cons z (.cons z (.cons z (.cons z .nil))))
          ·rintro ⟨aH, b3⟩ b4 ⟨rfl, l⟩
           replace h := flowK_go dE
           try dsimp only at h l
           refine (show At _ _ _ [(0, v0), (5, c), (8, vi aH), (9, vi 0)] _ from ?_)
           refine th (sq (sq (rg (wY (ya z) z (nl (th ?_))))))
           obtain ⟨mp, h, dG⟩ := flow1 h
           refine WC.join (σ := (Int × Own)) (fun x w' => mp = .go x.1 ∧ Stp [] b3 b4 x.2 w') (fun x => [(0, v0), (5, c), (8, vi aH), (9, vi x.1)]) ?_ ?_
           ·refine WC.block ?_
            obtain ⟨eT, h, dH⟩ := flow1 h
            obtain ⟨eU, h⟩ := loop_some h
            refine WC.joinB 2 (σ := (Int × Own)) (fun x w' => eT = .go x.1 ∧ Stp [] b3 b4 x.2 w') (fun x => [(0, v0), (5, c), (8, vi aH), (9, vi x.1)]) ?_ ?_
            ·refine WC.loop (σ := (Int × Int × Own)) (fun x k w' => loopN k (law36_RollupSums_lp2 ak) (x.1, x.2.1) = some eT ∧ Stp [] b3 b4 x.2.2 w') (fun x => [(0, v0), (5, c), (8, vi aH), (9, vi x.1), (11, vi x.2.1)]) (0, 0, b3) eU (.cons z (.cons z (.cons z (.cons z (.cons z .nil))))) ⟨h, (sr_ _ _ _)⟩ ?_
             rintro ⟨dp, mq, eV⟩ eU py ⟨h, am⟩
             obtain ⟨mr, qV, rfl, h, b5⟩ := rnd1 h
             unfold law36_RollupSums_lp2 at h
             try dsimp only at h am
             refine (show WC _ _ _ _ [(0, v0), (5, c), (8, vi aH), (9, vi dp), (11, vi mq)] _ from ?_)
             refine sq (sq (rg (wY (ym z) z (wY (ym z) z ?_))))
             have b6 := ((S.i d z z).i l z z).i am z z
             refine wY (Y.len ty22 z b6) z (wY (Y.lss_i z z) z (nl (th ?_)))
             rcases cnd h with ⟨b7, h⟩ | ⟨b7, h⟩
             ·refine WC.condT' z b7 (sk (th (sq (WC.block (sq (sq (rg (wY (ym z) z (wY (ym z) z ?_)))))))))
              refine wY (ym z) z ?_
              obtain ⟨dr, iI, h⟩ := bnd h
              obtain ⟨qW, oh, oi, pz, iJ, iK, iL, b8, eW, iM⟩ := Sl.at2 b6 iI
              obtain ⟨_, _, rfl, rfl, ⟨_, _, rfl, ⟨ms, rfl, pA⟩, ⟨_, _, rfl, rfl, ⟨_, _, rfl, rfl, ⟨_, _, rfl, rfl, ⟨_, _, rfl, rfl, ⟨_, _, rfl, rfl, ⟨_, _, rfl, rfl, ⟨_, _, rfl, rfl, ⟨_, _, rfl, rfl, ⟨_, _, rfl, ⟨_, _, rfl, rfl, ⟨_, _, rfl, rfl, ⟨_, _, rfl, ⟨_, _, rfl, rfl, ⟨mt, rfl, pB⟩⟩, ⟨_, _, rfl, rfl, ⟨mu, rfl, pC⟩⟩⟩⟩⟩, rfl⟩⟩⟩⟩⟩⟩⟩⟩⟩⟩⟩ := eW
              replace b8 : CellsAt _ _ _ (cp dr ms mt mu) := b8
              have eX := CAt.imm b8 iM
              refine wY (Y.indexAddr ty22 ty33 z iJ z iK iL) z (wY (yf fo33_7 z) z (wY (yl ty3 z z (eX.at_.sub 7 [vi dr.Int_] z)) z ?_))
              obtain ⟨qX, iN, h⟩ := bnd h
              refine WL.call (vals := [vi dp, vi dr.Int_, vB false]) kok10 z z (c_ref15_Wide iN) ?_
              rintro pD iO ⟨rfl, iP⟩
              obtain ⟨eY, nN, nO, bp⟩ := adoptE eV (fun k => 1) iP
              refine nl (th ?_)
              rcases cnd h with ⟨b9, h⟩ | ⟨b9, h⟩
              ·refine WC.condT' z b9 (sq (rg (wY (ya z) z (nl (th (rt (At.thenR (At.inBlockR (At.thenR ?_)))))))))
               refine At.loopR ?_
               have h := outr1 h b5 dH
               refine At.joinBR (At.inBlockR ?_)
               have h := outs1 h dG
               refine At.joinR (At.thenR ?_)
               obtain rfl := some1 h
               have iQ : Stp [] (Lg.O0 A) w eY iO := (tr_ (su_ j z) (tr_ (su_ m z) (tr_ (su_ n z) (tr_ (su_ d z) (tr_ (su_ l z) (tr_ (su_ am z) (su_ bp z)))))))
               exact At.res (.inl z) z (.tmp z .nil) ⟨z, (se_ iQ z z)⟩
              ·refine WC.condF' z b9 (sk (th (rg (wY (ym z) z (wY (ym z) z (wY (ym z) z ?_))))))
               obtain ⟨eZ, iR, h⟩ := bnd h
               have iS := b6.i bp z z
               obtain ⟨qY, oj, ol, pE, iT, iU, iV, ca, e0, iW⟩ := Sl.at2 iS iR
               obtain ⟨_, _, rfl, rfl, ⟨_, _, rfl, ⟨mv, rfl, pF⟩, ⟨_, _, rfl, rfl, ⟨_, _, rfl, rfl, ⟨_, _, rfl, rfl, ⟨_, _, rfl, rfl, ⟨_, _, rfl, rfl, ⟨_, _, rfl, rfl, ⟨_, _, rfl, rfl, ⟨_, _, rfl, rfl, ⟨_, _, rfl, ⟨_, _, rfl, rfl, ⟨_, _, rfl, rfl, ⟨_, _, rfl, ⟨_, _, rfl, rfl, ⟨mw, rfl, pG⟩⟩, ⟨_, _, rfl, rfl, ⟨mx, rfl, pH⟩⟩⟩⟩⟩, rfl⟩⟩⟩⟩⟩⟩⟩⟩⟩⟩⟩ := e0
               replace ca : CellsAt _ _ _ (cp eZ mv mw mx) := ca
               have e1 := CAt.imm ca iW
               refine wY (Y.indexAddr ty22 ty33 z iT z iU iV) z (wY (yf fo33_7 z) z (wY (yl ty3 z z (e1.at_.sub 7 [vi eZ.Int_] z)) z (wY (Y.add_i z z) z ?_)))
               obtain ⟨my, iX, h⟩ := lt1 h
               refine WL.yE (ya z) (congrArg vi iX.symm) z (nl (At.inBlock (th (rg (wY (ym z) z (wY (Y.add_i z z) z ?_))))))
               obtain ⟨mz, iY, h⟩ := lt1 h
               refine WL.yE (ya z) (congrArg vi iY.symm) z (nl ?_)
               exact At.round (my, mz, eY) mr (Nat.lt_succ_self _) ⟨next1 h b5, (tr_ (su_ am z) (su_ bp z))⟩ (.cons z (.cons z (.cons z (.cons z (.cons z .nil)))))
             ·refine WC.condF' z b7 (WC.exit (At.thenX (At.loopX ?_)))
              exact At.hitB (σ := (Int × Own)) (dp, eV) ⟨brk1 h b5, (su_ am z)⟩ (.cons z (.cons z (.cons z (.cons z .nil))))
            ·rintro ⟨e2, mA⟩ pI ⟨rfl, cW⟩
             replace h := flowK_go dH
             try dsimp only at h cW
             refine (show At _ _ _ [(0, v0), (5, c), (8, vi aH), (9, vi e2)] _ from ?_)
             refine At.inBlockHit ?_
             exact At.join (σ := (Int × Own)) (e2, mA) ⟨go2 h, (su_ cW z)⟩ (.cons z (.cons z (.cons z (.cons z .nil))))
           ·rintro ⟨mB, aZ⟩ M ⟨rfl, o⟩
            replace h := flowK_go dG
            try dsimp only at h o
            refine (show At _ _ _ [(0, v0), (5, c), (8, vi aH), (9, vi mB)] _ from ?_)
            refine th (sq (sq (rg (wY (ym z) z (wY (ym z) z (wY (Y.neq_i z z) z (nl (th ?_))))))))
            rcases cnd h with ⟨cb, h⟩ | ⟨cb, h⟩
            ·refine WC.condT' z cb (sq (rg (wY (ya z) z (nl (th (rt (At.thenR ?_)))))))
             obtain rfl := some1 h
             have iZ : Stp [] (Lg.O0 A) w aZ M := (tr_ (su_ j z) (tr_ (su_ m z) (tr_ (su_ n z) (tr_ (su_ d z) (tr_ (su_ l z) (su_ o z))))))
             exact At.res (.inl z) z (.tmp z .nil) ⟨z, (se_ iZ z z)⟩
            ·refine WC.condF' z cb (sk (th (sq (sq (rg (wY (ym z) z ?_))))))
             obtain ⟨e5, i0, h⟩ := bnd h
             have dI := (bT.i l z z).i o z z
             obtain ⟨qZ, om, oo, pJ, i2, i3, i4, cc, e6, i5⟩ := Sl.at2 dI i0
             obtain ⟨_, _, rfl, rfl, ⟨_, _, rfl, ⟨mC, rfl, pK⟩, ⟨_, _, rfl, rfl, ⟨_, _, rfl, rfl, ⟨_, _, rfl, rfl, ⟨_, _, rfl, rfl, ⟨_, _, rfl, rfl, ⟨_, _, rfl, rfl, ⟨_, _, rfl, rfl, ⟨_, _, rfl, rfl, ⟨_, _, rfl, ⟨_, _, rfl, rfl, ⟨_, _, rfl, rfl, ⟨_, _, rfl, ⟨_, _, rfl, rfl, ⟨mD, rfl, pL⟩⟩, ⟨_, _, rfl, rfl, ⟨mE, rfl, pM⟩⟩⟩⟩⟩, rfl⟩⟩⟩⟩⟩⟩⟩⟩⟩⟩⟩ := e6
             replace cc : CellsAt _ _ _ (cp e5 mC mD mE) := cc
             have e7 := CAt.imm cc i5
             refine wY (Y.indexAddr ty22 ty33 z i2 z i3 i4) z (wY (yf fo33_2 z) z (wY (yl ty3 z z (e7.at_.sub 2 [vi e5.Kind] z)) z (wY (Y.neq_i z z) z (nl (th ?_)))))
             rcases cnd h with ⟨cd, h⟩ | ⟨cd, h⟩
             ·refine WC.condT' z cd (sq (rg (wY (ya z) z (nl (th (rt (At.thenR ?_)))))))
              obtain rfl := some1 h
              have i6 : Stp [] (Lg.O0 A) w aZ M := (tr_ (su_ j z) (tr_ (su_ m z) (tr_ (su_ n z) (tr_ (su_ d z) (tr_ (su_ l z) (su_ o z))))))
              exact At.res (.inl z) z (.tmp z .nil) ⟨z, (se_ i6 z z)⟩
             ·refine WC.condF' z cd (sk (th (sq (rg (wY (ya z) z (nl (th (sq (rg ?_)))))))))
              refine wY (ya z) z (wY (ya z) z (nl (th (sq (sq (rg (wY (ya z) z (nl (th ?_)))))))))
              obtain ⟨mF, h, i7⟩ := bnd h
              refine WC.join (σ := Int) (fun x w' => x = mF ∧ M = w') (fun x => [(0, v0), (5, c), (12, vi x), (13, sn), (14, sn)]) ?_ ?_
              ·refine WC.block ?_
               obtain ⟨e8, h, i8⟩ := flow1 h
               obtain ⟨e9, h⟩ := loop_some h
               refine WC.joinB 4 (σ := Int) (fun x w' => e8 = .go x ∧ M = w') (fun x => [(0, v0), (5, c), (12, vi x), (13, sn), (14, sn)]) ?_ ?_
               ·refine WC.loop (σ := (Int × Int)) (fun x k w' => loopN k (law36_RollupSums_lp3 ak) (x.1, x.2) = some e8 ∧ M = w') (fun x => [(0, v0), (5, c), (12, vi x.1), (13, sn), (14, sn), (15, vi x.2)]) (20, 0) e9 (.cons z (.cons z (.cons z (.cons z (.cons z (.cons z .nil)))))) ⟨h, z⟩ ?_
                rintro ⟨bq, mG⟩ e9 _ ⟨h, rfl⟩
                obtain ⟨mH, q0, rfl, h, dJ⟩ := rnd1 h
                unfold law36_RollupSums_lp3 at h
                try dsimp only at h
                refine (show WC _ _ _ _ [(0, v0), (5, c), (12, vi bq), (13, sn), (14, sn), (15, vi mG)] _ from ?_)
                refine sq (sq (rg (wY (ym z) z (wY (ym z) z ?_))))
                have dK := ((S.i d z z).i l z z).i o z z
                refine wY (Y.len ty22 z dK) z (wY (Y.lss_i z z) z (nl (th ?_)))
                rcases cnd h with ⟨ce, h⟩ | ⟨ce, h⟩
                ·refine WC.condT' z ce (sk (th (sq (WC.block (rg (wY (ym z) z (wY (ym z) z (wY (ym z) z ?_))))))))
                 obtain ⟨fa, jb, h⟩ := bnd h
                 obtain ⟨q1, op, oq, pN, jc, jd, je, cf, fc, jf⟩ := Sl.at2 dK jb
                 obtain ⟨_, _, rfl, rfl, ⟨_, _, rfl, ⟨mI, rfl, pO⟩, ⟨_, _, rfl, rfl, ⟨_, _, rfl, rfl, ⟨_, _, rfl, rfl, ⟨_, _, rfl, rfl, ⟨_, _, rfl, rfl, ⟨_, _, rfl, rfl, ⟨_, _, rfl, rfl, ⟨_, _, rfl, rfl, ⟨_, _, rfl, ⟨_, _, rfl, rfl, ⟨_, _, rfl, rfl, ⟨_, _, rfl, ⟨_, _, rfl, rfl, ⟨mJ, rfl, pP⟩⟩, ⟨_, _, rfl, rfl, ⟨mK, rfl, pQ⟩⟩⟩⟩⟩, rfl⟩⟩⟩⟩⟩⟩⟩⟩⟩⟩⟩ := fc
                 replace cf : CellsAt _ _ _ (cp fa mI mJ mK) := cf
                 have fd := CAt.imm cf jf
                 refine wY (Y.indexAddr ty22 ty33 z jc z jd je) z (wY (yf fo33_10 z) z (wY (yf fo31_0 z) z (wY (yl ty3 z z (fd.at_.sub 10 [vi fa.Hist.Scale] z)) z (wY (Y.min_i z z) z ?_))))
                 obtain ⟨ds, cX, h⟩ := lt1 h
                 refine WL.yE (ya z) (congrArg vi cX.symm) z (nl (At.inBlock (th (rg (wY (ym z) z (wY (Y.add_i z z) z ?_))))))
                 obtain ⟨mL, jg, h⟩ := lt1 h
                 refine WL.yE (ya z) (congrArg vi jg.symm) z (nl ?_)
                 exact At.round (ds, mL) mH (Nat.lt_succ_self _) ⟨next1 h dJ, z⟩ (.cons z (.cons z (.cons z (.cons z (.cons z (.cons z .nil))))))
                ·refine WC.condF' z ce (WC.exit (At.thenX (At.loopX ?_)))
                 exact At.hitB (σ := Int) bq ⟨brk1 h dJ, z⟩ (.cons z (.cons z (.cons z (.cons z (.cons z .nil)))))
               ·rintro br _ ⟨rfl, rfl⟩
                replace h := flowK_go i8
                try dsimp only at h
                refine (show At _ _ _ [(0, v0), (5, c), (12, vi br), (13, sn), (14, sn)] _ from ?_)
                refine At.inBlockHit ?_
                exact At.join (σ := Int) br ⟨some1 h, z⟩ (.cons z (.cons z (.cons z (.cons z (.cons z .nil)))))
              ·rintro a _ ⟨rfl, rfl⟩
               replace h := i7
               try dsimp only at h
               refine (show At _ _ _ [(0, v0), (5, c), (12, vi a), (13, sn), (14, sn)] _ from ?_)
               refine th (sq (sq (rg (wY (ya z) z (nl (th ?_))))))
               obtain ⟨mM, h, dL⟩ := flow1 h
               refine WC.join (σ := (List api_Hist × Own × Value)) (fun x w' => mM = .go x.1 ∧ Stp [11, 12, 13, 14, 15, 16, 18, 1001, 1002, 1003, 1004, 1005, 1006] aZ M x.2.1 w' ∧ OwnSl 1008 rep_api_Hist 31 x.2.1 w' x.2.2 x.1) (fun x => [(5, c), (12, vi a), (13, x.2.2), (14, sn)]) ?_ ?_
               ·refine WC.block ?_
                obtain ⟨fe, h, dM⟩ := flow1 h
                obtain ⟨ff, h⟩ := loop_some h
                refine WC.joinB 6 (σ := (List api_Hist × Own × Value)) (fun x w' => fe = .go x.1 ∧ Stp [11, 12, 13, 14, 15, 16, 18, 1001, 1002, 1003, 1004] aZ M x.2.1 w' ∧ OwnSl 1006 rep_api_Hist 31 x.2.1 w' x.2.2 x.1) (fun x => [(5, c), (12, vi a), (13, x.2.2), (14, sn)]) ?_ ?_
                ·refine WC.loop (σ := (List api_Hist × Int × Own × Value)) (fun x k w' => loopN k (law36_RollupSums_lp4 a0 a) (x.1, x.2.1) = some fe ∧ Stp [11, 12, 13, 14, 15, 16, 18, 1001, 1002, 1003, 1004] aZ M x.2.2.1 w' ∧ OwnSl 1004 rep_api_Hist 31 x.2.2.1 w' x.2.2.2 x.1) (fun x => [(0, v0), (5, c), (12, vi a), (13, x.2.2.2), (14, sn), (16, vi x.2.1)]) ([], 0, aZ, sn) ff (.cons z (.cons z (.cons z (.cons z (.cons z (.cons z .nil)))))) ⟨h, (sr_ _ _ _), (OwnSl.nil 1004 rep_api_Hist 31)⟩ ?_
                 rintro ⟨mN, dt, cg, ch⟩ ff pR ⟨h, an, ci⟩
                 obtain ⟨mO, q2, rfl, h, cj⟩ := rnd1 h
                 unfold law36_RollupSums_lp4 at h
                 try dsimp only at h an ci
                 refine (show WC _ _ _ _ [(0, v0), (5, c), (12, vi a), (13, ch), (14, sn), (16, vi dt)] _ from ?_)
                 refine sq (sq (rg (wY (ym z) z (wY (ym z) z ?_))))
                 have dN := dI.i an z z
                 refine wY (Y.len ty22 z dN) z (wY (Y.lss_i z z) z (nl (th ?_)))
                 rcases cnd h with ⟨ck, h⟩ | ⟨ck, h⟩
                 ·refine WC.condT' z ck (sk (th (sq (WC.block (sq (WC.drawH [11, 12, 13, 14, 15, 16, 1001] [0, 1, 2, 3, 4, 5, 6, 7, 8, 9, 10, 11, 12, 13, 14, 15, 16, 17, 18, 19, 20, 21, 22, 23, 24, 25, 26] cg 27 fmix z (by kernel_rfl) ?_))))))
                  intro jh aL
                  refine WD.y 0 z (by kernel_rfl) (fun _ _ _ => ym z) z (WD.y 1 z (by kernel_rfl) (fun _ _ _ => ym z) z ?_)
                  obtain ⟨a2, ji, h⟩ := bnd h
                  have cl := dN.i aL z z
                  obtain ⟨q3, os, ot, pS, jj, jk, jl, cm, fg, jm⟩ := Sl.at2 cl ji
                  obtain ⟨_, _, rfl, rfl, ⟨_, _, rfl, ⟨mP, rfl, pT⟩, ⟨_, _, rfl, rfl, ⟨_, _, rfl, rfl, ⟨_, _, rfl, rfl, ⟨_, _, rfl, rfl, ⟨_, _, rfl, rfl, ⟨_, _, rfl, rfl, ⟨_, _, rfl, rfl, ⟨_, _, rfl, rfl, ⟨_, _, rfl, ⟨_, _, rfl, rfl, ⟨_, _, rfl, rfl, ⟨_, _, rfl, ⟨_, _, rfl, rfl, ⟨cn, rfl, dO⟩⟩, ⟨_, _, rfl, rfl, ⟨co, rfl, dP⟩⟩⟩⟩⟩, rfl⟩⟩⟩⟩⟩⟩⟩⟩⟩⟩⟩ := fg
                  replace cm : CellsAt _ _ _ (cp a2 mP cn co) := cm
                  have fh := CAt.imm cm jm
                  refine WD.y 2 z (by kernel_rfl) (fun _ _ _ => Y.indexAddr ty22 ty33 z jj z jk jl) z (WD.y 3 z (by kernel_rfl) (fun _ _ _ => yf fo33_10 z) z (WD.y 4 z (by kernel_rfl) (fun pU q4 fi => have jn := fh.st fi z; yL ty31 z z (jn.at_.sub 10 (hl a2.Hist cn co) z) z) z (WD.y 5 z (by kernel_rfl) (fun _ _ _ => ym z) z (WD.y 6 z (by kernel_rfl) (fun _ _ _ => ym z) z ?_))))
                  obtain ⟨cq, jo, h⟩ := bnd h
                  obtain ⟨q5, ou, ov, pV, jp, jq, jr, cr, fj, js⟩ := Sl.at2 cl jo
                  obtain ⟨_, _, rfl, rfl, ⟨_, _, rfl, ⟨mQ, rfl, pW⟩, ⟨_, _, rfl, rfl, ⟨_, _, rfl, rfl, ⟨_, _, rfl, rfl, ⟨_, _, rfl, rfl, ⟨_, _, rfl, rfl, ⟨_, _, rfl, rfl, ⟨_, _, rfl, rfl, ⟨_, _, rfl, rfl, ⟨_, _, rfl, ⟨_, _, rfl, rfl, ⟨_, _, rfl, rfl, ⟨_, _, rfl, ⟨_, _, rfl, rfl, ⟨mR, rfl, pX⟩⟩, ⟨_, _, rfl, rfl, ⟨mS, rfl, pY⟩⟩⟩⟩⟩, rfl⟩⟩⟩⟩⟩⟩⟩⟩⟩⟩⟩ := fj
                  replace cr : CellsAt _ _ _ (cp cq mQ mR mS) := cr
                  have fk := CAt.imm cr js
                  refine WD.y 7 z (by kernel_rfl) (fun _ _ _ => Y.indexAddr ty22 ty33 z jp z jq jr) z (WD.y 8 z (by kernel_rfl) (fun _ _ _ => yf fo33_10 z) z (WD.y 9 z (by kernel_rfl) (fun _ _ _ => yf fo31_0 z) z (WD.y 10 z (by kernel_rfl) (fun pZ q6 fl => have jt := fk.st fl z; yl ty3 z z (jt.at_.sub 10 [vi cq.Hist.Scale] z)) z (WD.y 11 z (by kernel_rfl) (fun _ _ _ => ym z) z (WD.y 12 z (by kernel_rfl) (fun _ _ _ => ym z) z (WD.y 13 z (by kernel_rfl) (fun _ _ _ => ym z) z ?_))))))
                  obtain ⟨cs, ju, h⟩ := bnd h
                  obtain ⟨q7, ow, ox, p0, jv, jw, jx, ct, fm, jy⟩ := Sl.at2 cl ju
                  obtain ⟨_, _, rfl, rfl, ⟨_, _, rfl, ⟨mT, rfl, p1⟩, ⟨_, _, rfl, rfl, ⟨_, _, rfl, rfl, ⟨_, _, rfl, rfl, ⟨_, _, rfl, rfl, ⟨_, _, rfl, rfl, ⟨_, _, rfl, rfl, ⟨_, _, rfl, rfl, ⟨_, _, rfl, rfl, ⟨_, _, rfl, ⟨_, _, rfl, rfl, ⟨_, _, rfl, rfl, ⟨_, _, rfl, ⟨_, _, rfl, rfl, ⟨mU, rfl, p3⟩⟩, ⟨_, _, rfl, rfl, ⟨mV, rfl, p4⟩⟩⟩⟩⟩, rfl⟩⟩⟩⟩⟩⟩⟩⟩⟩⟩⟩ := fm
                  replace ct : CellsAt _ _ _ (cp cs mT mU mV) := ct
                  have fn := CAt.imm ct jy
                  refine WD.y 14 z (by kernel_rfl) (fun _ _ _ => Y.indexAddr ty22 ty33 z jv z jw jx) z (WD.y 15 z (by kernel_rfl) (fun _ _ _ => yf fo33_10 z) z (WD.y 16 z (by kernel_rfl) (fun _ _ _ => yf fo31_0 z) z (WD.y 17 z (by kernel_rfl) (fun p5 q8 fo => have jz := fn.st fo z; yl ty3 z z (jz.at_.sub 10 [vi cs.Hist.Scale] z)) z (WD.y 18 z (by kernel_rfl) (fun _ _ _ => Y.min_i z z) z (WD.y 19 z (by kernel_rfl) (fun _ _ _ => Y.sub_i z z) z ?_)))))
                  obtain ⟨mW, h, jA⟩ := bnd h
                  refine WD.join (σ := (Int × UInt64 × Int × List UInt64 × Int × List UInt64 × Int × Own × Nat × Value × Value)) (f' := 2) [24, 23, 22, 21, 20, 19, 18, 17, 16, 15, 14, 13, 12, 11, 10, 9, 8, 7, 6, 5, 4, 3, 2, 1, 0] (fun x O' w' => (x.1, x.2.1, x.2.2.1, x.2.2.2.1, x.2.2.2.2.1, x.2.2.2.2.2.1, x.2.2.2.2.2.2.1) = mW ∧ Stp [11, 12, 13, 14, 15, 16] cg jh x.2.2.2.2.2.2.2.1 w' ∧ Blk 1001 x.2.2.2.2.2.2.2.1 w' x.2.2.2.2.2.2.2.2.1 31 hzr ∧ OwnSl 1002 Rep.u 26 x.2.2.2.2.2.2.2.1 w' x.2.2.2.2.2.2.2.2.2.1 x.2.2.2.1 ∧ OwnSl 1003 Rep.u 26 x.2.2.2.2.2.2.2.1 w' x.2.2.2.2.2.2.2.2.2.2 x.2.2.2.2.2.1 ∧ x.2.2.2.2.2.2.2.1 = O') (fun x => [(0, v0), (5, c), (12, vi a), (13, ch), (14, sn), (16, vi dt), (17, Value.pointer (some ⟨x.2.2.2.2.2.2.2.2.1, 0, none⟩)), (189, ag [vi x.1, vu x.2.1, vi x.2.2.1, x.2.2.2.2.2.2.2.2.2.1, vi x.2.2.2.2.1, x.2.2.2.2.2.2.2.2.2.2]), (190, vi x.2.2.2.2.2.2.1)]) (fun dQ => ?_) ?_
                  ·refine WD.heavy2 20 24 z z (by kernel_rfl) ?_ ?_
                   ·obtain ⟨⟨ao, mX⟩, jB, h⟩ := bnd h
                    refine WL.call (vals := [ag (hl a2.Hist cn co), vi (w64 (cq.Hist.Scale - (min a cs.Hist.Scale)))]) kok11 z z (c_hist_Down (A := fun _ => True) (a0 := a2.Hist) (Sl.all dO) (Sl.all dP) jB) ?_
                    rintro p6 dR ⟨cu, du, rfl, jC, mY, mZ, m0⟩
                    obtain ⟨dw, nP, bG, cY⟩ := adoptE cg (fun k => if ob cu = some k then 11 else if ob du = some k then 12 else 1) jC
                    have jD : OwnSl 11 Rep.u 26 dw dR cu ao.Pos.Counts := RowF.adopt 11 Flat.u mY bG (fun k hk => if_pos hk)
                    have jE : OwnSl 12 Rep.u 26 dw dR du ao.Neg.Counts := RowF.adopt 12 Flat.u mZ bG (fun k hk => (if_neg (fun (e : ob cu = some k) => m0 k e hk)).trans (if_pos hk))
                    refine nl (At.dq (su_ cY z) (WD.y 21 z (by kernel_rfl) (fun _ _ _ => ym z) z (WD.y 22 z (by kernel_rfl) (fun _ _ _ => yx z z) z (WD.y 23 z (by kernel_rfl) (fun _ _ _ => yx z z) z (WD.heavy 24 z (by kernel_rfl) (WL.alloc (O := dw) 13 hzr ty31 z z ?_))))))
                    intro m1 q9 p8 aM jF
                    refine nl (At.dq (su_ aM z) ?_)
                    obtain ⟨ra, aN, jG⟩ := Blk.rlb 1001 rfl jF
                    have jI := (jD.st aM z z z).st aN z z z
                    obtain ⟨rb, aO, jJ⟩ := OwnSl.rlb 1002 rfl jI
                    have jM := ((jE.st aM z z z).st aN z z z).st aO z z z
                    obtain ⟨m2, aP, jN⟩ := OwnSl.rlb 1003 rfl jM
                    have jP := (jG.st aO z).st aP z
                    have jQ := jJ.st aP z z z
                    refine WD.own (tr_ (su_ aN z) (tr_ (su_ aO z) (su_ aP z))) (WD.perm _ [24, 23, 22, 21, 20, 19, 18, 17, 16, 15, 14, 13, 12, 11, 10, 9, 8, 7, 6, 5, 4, 3, 2, 1, 0] (by kernel_rfl) ?_)
                    exact dQ (ao.Scale, ao.Zero, ao.Pos.Offset, ao.Pos.Counts, ao.Neg.Offset, ao.Neg.Counts, mX, m2, m1, cu, du) _ _ _ ⟨some1 h, (tr_ (su_ cY z) (tr_ (su_ aM z) (tr_ (su_ aN z) (tr_ (su_ aO z) (su_ aP z))))), jP, jQ, jN, z⟩ (.cons z (.cons z (.cons z (.cons z (.cons z (.cons z (.cons z (.cons z (.cons z .nil)))))))))
                   ·try simp only [Option.bind_assoc] at h
                    try simp only [Option.bind_some] at h
                    refine WL.alloc (O := cg) 14 hzr ty31 z z ?_
                    intro m3 m4 p9 aQ jR
                    refine nl (At.dq (su_ aQ z) (WD.heavy 20 z (by kernel_rfl) ?_))
                    have jS := dO.i aQ z z
                    have jT := dP.i aQ z z
                    obtain ⟨⟨ap, m5⟩, jU, h⟩ := bnd h
                    refine WL.call (vals := [ag (hl a2.Hist cn co), vi (w64 (cq.Hist.Scale - (min a cs.Hist.Scale)))]) kok11 z z (c_hist_Down (A := fun _ => True) (a0 := a2.Hist) (Sl.all jS) (Sl.all jT) jU) ?_
                    rintro qa dS ⟨cv, dx, rfl, jV, m6, m7, m8⟩
                    obtain ⟨fp, nQ, bH, bs⟩ := adoptE m4 (fun k => if ob cv = some k then 15 else if ob dx = some k then 16 else 1) jV
                    have jW : OwnSl 15 Rep.u 26 fp dS cv ap.Pos.Counts := RowF.adopt 15 Flat.u m6 bH (fun k hk => if_pos hk)
                    have jX : OwnSl 16 Rep.u 26 fp dS dx ap.Neg.Counts := RowF.adopt 16 Flat.u m7 bH (fun k hk => (if_neg (fun (e : ob cv = some k) => m8 k e hk)).trans (if_pos hk))
                    refine nl (At.dq (su_ bs z) (WD.y 21 z (by kernel_rfl) (fun _ _ _ => ym z) z (WD.y 22 z (by kernel_rfl) (fun _ _ _ => yx z z) z (WD.y 23 z (by kernel_rfl) (fun _ _ _ => yx z z) z ?_))))
                    have jY := jR.st bs z
                    obtain ⟨rc, aR, jZ⟩ := Blk.rlb 1001 rfl jY
                    have j0 := jW.st aR z z z
                    obtain ⟨rd, aS, j1⟩ := OwnSl.rlb 1002 rfl j0
                    have j3 := (jX.st aR z z z).st aS z z z
                    obtain ⟨m9, aT, j4⟩ := OwnSl.rlb 1003 rfl j3
                    have j6 := (jZ.st aS z).st aT z
                    have j7 := j1.st aT z z z
                    refine WD.own (tr_ (su_ aR z) (tr_ (su_ aS z) (su_ aT z))) (WD.perm _ [24, 23, 22, 21, 20, 19, 18, 17, 16, 15, 14, 13, 12, 11, 10, 9, 8, 7, 6, 5, 4, 3, 2, 1, 0] (by kernel_rfl) ?_)
                    exact dQ (ap.Scale, ap.Zero, ap.Pos.Offset, ap.Pos.Counts, ap.Neg.Offset, ap.Neg.Counts, m5, m9, m3, cv, dx) _ _ _ ⟨some1 h, (tr_ (su_ aQ z) (tr_ (su_ bs z) (tr_ (su_ aR z) (tr_ (su_ aS z) (su_ aT z))))), j6, j7, j4, z⟩ (.cons z (.cons z (.cons z (.cons z (.cons z (.cons z (.cons z (.cons z (.cons z .nil)))))))))
                  ·rintro ⟨af, T, E, na, F, nb, nc, nd, ne, nf, ng⟩ _ qb ⟨rfl, aU, dT, cw, cx, rfl⟩
                   replace h := jA
                   try dsimp only at h aU dT cw cx
                   refine (show WD _ _ _ _ _ _ _ _ [(0, v0), (5, c), (12, vi a), (13, ch), (14, sn), (16, vi dt), (17, pt ne 0), (189, ag [vi af, vu T, vi E, nf, vi F, ng]), (190, vi nc)] _ _ from ?_)
                   refine WD.heavy 25 z (by kernel_rfl) ?_
                   have j8 := h
                   obtain ⟨U, V, W, rfl⟩ := cw.shape
                   have h := j8
                   have j9 := h
                   obtain ⟨X, Z, aa, rfl⟩ := cx.shape
                   have h := j9
                   refine WL.store (v := ag [vi af, vu T, vi E, (vl U V W), vi F, (vl X Z aa)]) (cells' := [vi af, vu T, vi E, (vl U V W), vi F, (vl X Z aa)]) ty31 z z dT z (le_ z) z z ?_
                   intro ka ad kb
                   refine nl (At.dq (su_ ad z) (WD.y 26 z (by kernel_rfl) (fun _ _ _ => ya z) z (WD.done_ (by kernel_rfl) (th (sq (sq (rg (wY (ym z) z (wY (Y.neq_i z z) z ?_)))))))))
                   refine nl (th ?_)
                   rcases cnd h with ⟨cy, h⟩ | ⟨cy, h⟩
                   ·refine WC.condT' z cy (sq (rg (wY (ya z) z (nl (th (rt (At.thenR (At.inBlockR (At.thenR ?_)))))))))
                    refine At.loopR ?_
                    have h := outr1 h cj dM
                    refine At.joinBR (At.inBlockR ?_)
                    have h := outs1 h dL
                    refine At.joinR (At.thenR ?_)
                    obtain rfl := some1 h
                    have kc : Stp [11, 12, 13, 14, 15, 16, 18, 1001, 1002, 1003, 1004] (Lg.O0 A) w nd ka := (tr_ (su_ j z) (tr_ (su_ m z) (tr_ (su_ n z) (tr_ (su_ d z) (tr_ (su_ l z) (tr_ (su_ o z) (tr_ (su_ an z) (tr_ (su_ aL z) (tr_ (su_ aU z) (su_ ad z))))))))))
                    exact At.res (.inl z) z (.tmp z .nil) ⟨z, (se_ kc z z)⟩
                   ·refine WC.condF' z cy (sk (th (rg (wY (ym z) z (wY (yL ty31 z z (kb.cells 0 [vi af, vu T, vi E, (vl U V W), vi F, (vl X Z aa)] z) z) z ?_)))))
                    have kd := cw.st ad z z z
                    obtain ⟨re, bt, ke⟩ := OwnSl.giveF rfl Flat.u kd
                    have kg := (cx.st ad z z z).st bt z z z
                    obtain ⟨nh, bu, kh⟩ := OwnSl.giveF rfl Flat.u kg
                    have ki := ke.f bu z
                    refine WL.buildSlice (O := nh) (R := rep_api_Hist) (vals := [(0, ag [vi af, vu T, vi E, (vl U V W), vi F, (vl X Z aa)])]) 17 [vi af, vu T, vi E, (vl U V W), vi F, (vl X Z aa)] (xs := [(api_Hist.mk af T (api_Side.mk E na) (api_Side.mk F nb))]) (by decide) ty40 ty31 (by decide) (by decide) (fe_ z) (by kernel_rfl) z ⟨[vi af, vu T, vi E, (vl U V W), vi F, (vl X Z aa)], [], z, ⟨[vi af], [vu T, vi E, (vl U V W), vi F, (vl X Z aa)], z, z, ⟨[vu T], [vi E, (vl U V W), vi F, (vl X Z aa)], z, z, ⟨[vi E, (vl U V W)], [vi F, (vl X Z aa)], z, ⟨[vi E], [(vl U V W)], z, z, ⟨_, z, (Sl.mono ki frs_imm)⟩⟩, ⟨[vi F], [(vl X Z aa)], z, z, ⟨_, z, (Sl.mono kh frs_imm)⟩⟩⟩⟩⟩, z⟩ z ?_
                    intro rf rh qc cZ kj
                    obtain ⟨kk, fq, h⟩ := bnd h
                    have kr := (((((ci.st aL z z z).st aU z z z).st ad z z z).st bt z z z).st bu z z z).st cZ z z z
                    refine WL.append (by decide) ty40 ty31 z (by decide) z z kr kj.src fq z ?_
                    intro ni nj qd fs ks
                    refine wY (ya z) z (nl (At.inBlock (th (rg (wY (ym z) z (wY (Y.add_i z z) z ?_))))))
                    obtain ⟨nk, kt, h⟩ := lt1 h
                    refine WL.yE (ya z) (congrArg vi kt.symm) z (nl ?_)
                    exact At.round (kk, nk, nj, ni) mO (Nat.lt_succ_self _) ⟨next1 h cj, (tr_ (su_ an z) (tr_ (su_ aL z) (tr_ (su_ aU z) (tr_ (su_ ad z) (tr_ (su_ bt z) (tr_ (su_ bu z) (tr_ (su_ cZ z) (su_ fs z)))))))), ks⟩ (.cons z (.cons z (.cons z (.cons z (.cons z (.cons z .nil))))))
                 ·refine WC.condF' z ck (WC.exit (At.thenX (At.loopX ?_)))
                  obtain ⟨nm, ft, ku⟩ := OwnSl.rlb 1006 rfl ci
                  exact At.hitB (σ := (List api_Hist × Own × Value)) (mN, nm, ch) ⟨brk1 h cj, (tr_ (su_ an z) (su_ ft z)), ku⟩ (.cons z (.cons z (.cons z (.cons z .nil))))
                ·rintro ⟨nn, ri, fu⟩ qe ⟨rfl, c0, dU⟩
                 replace h := flowK_go dM
                 try dsimp only at h c0 dU
                 refine (show At _ _ _ [(5, c), (12, vi a), (13, fu), (14, sn)] _ from ?_)
                 refine At.inBlockHit ?_
                 obtain ⟨np, fv, kv⟩ := OwnSl.rlb 1008 rfl dU
                 exact At.join (σ := (List api_Hist × Own × Value)) (nn, np, fu) ⟨go2 h, (tr_ (su_ c0 z) (su_ fv z)), kv⟩ (.cons z (.cons z (.cons z (.cons z .nil))))
               ·rintro ⟨rj, cz, ab⟩ cA ⟨rfl, aW, dV⟩
                replace h := flowK_go dL
                try dsimp only at h aW dV
                refine (show At _ _ _ [(5, c), (12, vi a), (13, ab), (14, sn)] _ from ?_)
                refine th (sq (sq (rg (wY (ya z) z (nl (th ?_))))))
                obtain ⟨nq, h, dW⟩ := flow1 h
                refine WC.join (σ := (List api_Hist × Own × Value)) (fun x w' => nq = .go x.1 ∧ Stp [18, 19, 20, 21, 22, 23, 25, 1009, 1010, 1011, 1012, 1013, 1014] cz cA x.2.1 w' ∧ OwnSl 1016 rep_api_Hist 31 x.2.1 w' x.2.2 x.1) (fun x => [(13, ab), (14, x.2.2)]) ?_ ?_
                ·refine WC.block ?_
                 obtain ⟨fw, h, dX⟩ := flow1 h
                 obtain ⟨fx, h⟩ := loop_some h
                 refine WC.joinB 8 (σ := (List api_Hist × Own × Value)) (fun x w' => fw = .go x.1 ∧ Stp [18, 19, 20, 21, 22, 23, 25, 1009, 1010, 1011, 1012] cz cA x.2.1 w' ∧ OwnSl 1014 rep_api_Hist 31 x.2.1 w' x.2.2 x.1) (fun x => [(13, ab), (14, x.2.2)]) ?_ ?_
                 ·refine WC.loop (σ := (List api_Hist × Int × Own × Value)) (fun x k w' => loopN k (law36_RollupSums_lp5 ak a) (x.1, x.2.1) = some fw ∧ Stp [18, 19, 20, 21, 22, 23, 25, 1009, 1010, 1011, 1012] cz cA x.2.2.1 w' ∧ OwnSl 1012 rep_api_Hist 31 x.2.2.1 w' x.2.2.2 x.1) (fun x => [(5, c), (12, vi a), (13, ab), (14, x.2.2.2), (19, vi x.2.1)]) ([], 0, cz, sn) fx (.cons z (.cons z (.cons z (.cons z (.cons z .nil))))) ⟨h, (sr_ _ _ _), (OwnSl.nil 1012 rep_api_Hist 31)⟩ ?_
                  rintro ⟨nr, dy, cC, cD⟩ fx qf ⟨h, aq, cE⟩
                  obtain ⟨ns, rk, rfl, h, cF⟩ := rnd1 h
                  unfold law36_RollupSums_lp5 at h
                  try dsimp only at h aq cE
                  refine (show WC _ _ _ _ [(5, c), (12, vi a), (13, ab), (14, cD), (19, vi dy)] _ from ?_)
                  refine sq (sq (rg (wY (ym z) z (wY (ym z) z ?_))))
                  have dY := ((((S.i d z z).i l z z).i o z z).i aW z z).i aq z z
                  refine wY (Y.len ty22 z dY) z (wY (Y.lss_i z z) z (nl (th ?_)))
                  rcases cnd h with ⟨cG, h⟩ | ⟨cG, h⟩
                  ·refine WC.condT' z cG (sk (th (sq (WC.block (sq (WC.drawH [18, 19, 20, 21, 22, 23, 1009] [0, 1, 2, 3, 4, 5, 6, 7, 8, 9, 10, 11, 12, 13, 14, 15, 16, 17, 18, 19] cC 20 fmix z (by kernel_rfl) ?_))))))
                   intro kC aX
                   refine WD.y 0 z (by kernel_rfl) (fun _ _ _ => ym z) z (WD.y 1 z (by kernel_rfl) (fun _ _ _ => ym z) z ?_)
                   obtain ⟨a3, kD, h⟩ := bnd h
                   have dZ := dY.i aX z z
                   obtain ⟨rl, oy, oz, qg, kE, kF, kG, cH, fy, kH⟩ := Sl.at2 dZ kD
                   obtain ⟨_, _, rfl, rfl, ⟨_, _, rfl, ⟨nt, rfl, qh⟩, ⟨_, _, rfl, rfl, ⟨_, _, rfl, rfl, ⟨_, _, rfl, rfl, ⟨_, _, rfl, rfl, ⟨_, _, rfl, rfl, ⟨_, _, rfl, rfl, ⟨_, _, rfl, rfl, ⟨_, _, rfl, rfl, ⟨_, _, rfl, ⟨_, _, rfl, rfl, ⟨_, _, rfl, rfl, ⟨_, _, rfl, ⟨_, _, rfl, rfl, ⟨cI, rfl, d0⟩⟩, ⟨_, _, rfl, rfl, ⟨cJ, rfl, d1⟩⟩⟩⟩⟩, rfl⟩⟩⟩⟩⟩⟩⟩⟩⟩⟩⟩ := fy
                   replace cH : CellsAt _ _ _ (cp a3 nt cI cJ) := cH
                   have fz := CAt.imm cH kH
                   refine WD.y 2 z (by kernel_rfl) (fun _ _ _ => Y.indexAddr ty22 ty33 z kE z kF kG) z (WD.y 3 z (by kernel_rfl) (fun _ _ _ => yf fo33_10 z) z (WD.y 4 z (by kernel_rfl) (fun qi rm fA => have kI := fz.st fA z; yL ty31 z z (kI.at_.sub 10 (hl a3.Hist cI cJ) z) z) z (WD.y 5 z (by kernel_rfl) (fun _ _ _ => ym z) z (WD.y 6 z (by kernel_rfl) (fun _ _ _ => ym z) z ?_))))
                   obtain ⟨cK, kJ, h⟩ := bnd h
                   obtain ⟨rn, oA, oB, qj, kK, kL, kM, cL, fB, kN⟩ := Sl.at2 dZ kJ
                   obtain ⟨_, _, rfl, rfl, ⟨_, _, rfl, ⟨nu, rfl, qk⟩, ⟨_, _, rfl, rfl, ⟨_, _, rfl, rfl, ⟨_, _, rfl, rfl, ⟨_, _, rfl, rfl, ⟨_, _, rfl, rfl, ⟨_, _, rfl, rfl, ⟨_, _, rfl, rfl, ⟨_, _, rfl, rfl, ⟨_, _, rfl, ⟨_, _, rfl, rfl, ⟨_, _, rfl, rfl, ⟨_, _, rfl, ⟨_, _, rfl, rfl, ⟨nv, rfl, ql⟩⟩, ⟨_, _, rfl, rfl, ⟨nw, rfl, qm⟩⟩⟩⟩⟩, rfl⟩⟩⟩⟩⟩⟩⟩⟩⟩⟩⟩ := fB
                   replace cL : CellsAt _ _ _ (cp cK nu nv nw) := cL
                   have fC := CAt.imm cL kN
                   refine WD.y 7 z (by kernel_rfl) (fun _ _ _ => Y.indexAddr ty22 ty33 z kK z kL kM) z (WD.y 8 z (by kernel_rfl) (fun _ _ _ => yf fo33_10 z) z (WD.y 9 z (by kernel_rfl) (fun _ _ _ => yf fo31_0 z) z (WD.y 10 z (by kernel_rfl) (fun qn ro fD => have kO := fC.st fD z; yl ty3 z z (kO.at_.sub 10 [vi cK.Hist.Scale] z)) z (WD.y 11 z (by kernel_rfl) (fun _ _ _ => ym z) z (WD.y 12 z (by kernel_rfl) (fun _ _ _ => Y.sub_i z z) z ?_)))))
                   obtain ⟨kP, h, fF⟩ := bnd h
                   refine WD.join (σ := (Int × UInt64 × Int × List UInt64 × Int × List UInt64 × Int × Own × Nat × Value × Value)) (f' := 2) [17, 16, 15, 14, 13, 12, 11, 10, 9, 8, 7, 6, 5, 4, 3, 2, 1, 0] (fun x O' w' => (x.1, x.2.1, x.2.2.1, x.2.2.2.1, x.2.2.2.2.1, x.2.2.2.2.2.1, x.2.2.2.2.2.2.1) = kP ∧ Stp [18, 19, 20, 21, 22, 23] cC kC x.2.2.2.2.2.2.2.1 w' ∧ Blk 1009 x.2.2.2.2.2.2.2.1 w' x.2.2.2.2.2.2.2.2.1 31 hzr ∧ OwnSl 1010 Rep.u 26 x.2.2.2.2.2.2.2.1 w' x.2.2.2.2.2.2.2.2.2.1 x.2.2.2.1 ∧ OwnSl 1011 Rep.u 26 x.2.2.2.2.2.2.2.1 w' x.2.2.2.2.2.2.2.2.2.2 x.2.2.2.2.2.1 ∧ x.2.2.2.2.2.2.2.1 = O') (fun x => [(5, c), (12, vi a), (13, ab), (14, cD), (19, vi dy), (20, Value.pointer (some ⟨x.2.2.2.2.2.2.2.2.1, 0, none⟩)), (218, ag [vi x.1, vu x.2.1, vi x.2.2.1, x.2.2.2.2.2.2.2.2.2.1, vi x.2.2.2.2.1, x.2.2.2.2.2.2.2.2.2.2]), (219, vi x.2.2.2.2.2.2.1)]) (fun c1 => ?_) ?_
                   ·refine WD.heavy2 13 17 z z (by kernel_rfl) ?_ ?_
                    ·obtain ⟨⟨P, kQ⟩, fG, h⟩ := bnd h
                     refine WL.call (vals := [ag (hl a3.Hist cI cJ), vi (w64 (cK.Hist.Scale - a))]) kok11 z z (c_hist_Down (A := fun _ => True) (a0 := a3.Hist) (Sl.all d0) (Sl.all d1) fG) ?_
                     rintro oC c2 ⟨a7, cM, rfl, fH, kR, kS, kT⟩
                     obtain ⟨cN, nx, bw, bI⟩ := adoptE cC (fun k => if ob a7 = some k then 18 else if ob cM = some k then 19 else 1) fH
                     have fI : OwnSl 18 Rep.u 26 cN c2 a7 P.Pos.Counts := RowF.adopt 18 Flat.u kR bw (fun k hk => if_pos hk)
                     have fJ : OwnSl 19 Rep.u 26 cN c2 cM P.Neg.Counts := RowF.adopt 19 Flat.u kS bw (fun k hk => (if_neg (fun (e : ob a7 = some k) => kT k e hk)).trans (if_pos hk))
                     refine nl (At.dq (su_ bI z) (WD.y 14 z (by kernel_rfl) (fun _ _ _ => ym z) z (WD.y 15 z (by kernel_rfl) (fun _ _ _ => yx z z) z (WD.y 16 z (by kernel_rfl) (fun _ _ _ => yx z z) z (WD.heavy 17 z (by kernel_rfl) (WL.alloc (O := cN) 20 hzr ty31 z z ?_))))))
                     intro kU qo oD ar fK
                     refine nl (At.dq (su_ ar z) ?_)
                     obtain ⟨qp, au, fL⟩ := Blk.rlb 1009 rfl fK
                     have fO := (fI.st ar z z z).st au z z z
                     obtain ⟨qq, av, fP⟩ := OwnSl.rlb 1010 rfl fO
                     have fT := ((fJ.st ar z z z).st au z z z).st av z z z
                     obtain ⟨kV, ax, fU⟩ := OwnSl.rlb 1011 rfl fT
                     have fY := (fL.st av z).st ax z
                     have f0 := fP.st ax z z z
                     refine WD.own (tr_ (su_ au z) (tr_ (su_ av z) (su_ ax z))) (WD.perm _ [17, 16, 15, 14, 13, 12, 11, 10, 9, 8, 7, 6, 5, 4, 3, 2, 1, 0] (by kernel_rfl) ?_)
                     exact c1 (P.Scale, P.Zero, P.Pos.Offset, P.Pos.Counts, P.Neg.Offset, P.Neg.Counts, kQ, kV, kU, a7, cM) _ _ _ ⟨some1 h, (tr_ (su_ bI z) (tr_ (su_ ar z) (tr_ (su_ au z) (tr_ (su_ av z) (su_ ax z))))), fY, f0, fU, z⟩ (.cons z (.cons z (.cons z (.cons z (.cons z (.cons z (.cons z (.cons z .nil))))))))
                    ·try simp only [Option.bind_assoc] at h
                     try simp only [Option.bind_some] at h
                     refine WL.alloc (O := cC) 21 hzr ty31 z z ?_
                     intro kW kX oE ay f1
                     refine nl (At.dq (su_ ay z) (WD.heavy 13 z (by kernel_rfl) ?_))
                     have f2 := d0.i ay z z
                     have f3 := d1.i ay z z
                     obtain ⟨⟨Q, kY⟩, f4, h⟩ := bnd h
                     refine WL.call (vals := [ag (hl a3.Hist cI cJ), vi (w64 (cK.Hist.Scale - a))]) kok11 z z (c_hist_Down (A := fun _ => True) (a0 := a3.Hist) (Sl.all f2) (Sl.all f3) f4) ?_
                     rintro oF c3 ⟨a8, cO, rfl, f5, kZ, k0, k1⟩
                     obtain ⟨d2, ny, bx, a4⟩ := adoptE kX (fun k => if ob a8 = some k then 22 else if ob cO = some k then 23 else 1) f5
                     have f6 : OwnSl 22 Rep.u 26 d2 c3 a8 Q.Pos.Counts := RowF.adopt 22 Flat.u kZ bx (fun k hk => if_pos hk)
                     have f7 : OwnSl 23 Rep.u 26 d2 c3 cO Q.Neg.Counts := RowF.adopt 23 Flat.u k0 bx (fun k hk => (if_neg (fun (e : ob a8 = some k) => k1 k e hk)).trans (if_pos hk))
                     refine nl (At.dq (su_ a4 z) (WD.y 14 z (by kernel_rfl) (fun _ _ _ => ym z) z (WD.y 15 z (by kernel_rfl) (fun _ _ _ => yx z z) z (WD.y 16 z (by kernel_rfl) (fun _ _ _ => yx z z) z ?_))))
                     have f8 := f1.st a4 z
                     obtain ⟨qr, az, f9⟩ := Blk.rlb 1009 rfl f8
                     have ga := f6.st az z z z
                     obtain ⟨qs, aA, gb⟩ := OwnSl.rlb 1010 rfl ga
                     have gd := (f7.st az z z z).st aA z z z
                     obtain ⟨k2, aC, ge⟩ := OwnSl.rlb 1011 rfl gd
                     have gg := (f9.st aA z).st aC z
                     have gh := gb.st aC z z z
                     refine WD.own (tr_ (su_ az z) (tr_ (su_ aA z) (su_ aC z))) (WD.perm _ [17, 16, 15, 14, 13, 12, 11, 10, 9, 8, 7, 6, 5, 4, 3, 2, 1, 0] (by kernel_rfl) ?_)
                     exact c1 (Q.Scale, Q.Zero, Q.Pos.Offset, Q.Pos.Counts, Q.Neg.Offset, Q.Neg.Counts, kY, k2, kW, a8, cO) _ _ _ ⟨some1 h, (tr_ (su_ ay z) (tr_ (su_ a4 z) (tr_ (su_ az z) (tr_ (su_ aA z) (su_ aC z))))), gg, gh, ge, z⟩ (.cons z (.cons z (.cons z (.cons z (.cons z (.cons z (.cons z (.cons z .nil))))))))
                   ·rintro ⟨ah, ac, G, nA, H, k3, k4, k5, nB, nC, k6⟩ _ oG ⟨rfl, aD, d3, cP, bz, rfl⟩
                    replace h := fF
                    try dsimp only at h aD d3 cP bz
                    refine (show WD _ _ _ _ _ _ _ _ [(5, c), (12, vi a), (13, ab), (14, cD), (19, vi dy), (20, pt nB 0), (218, ag [vi ah, vu ac, vi G, nC, vi H, k6]), (219, vi k4)] _ _ from ?_)
                    refine WD.heavy 18 z (by kernel_rfl) ?_
                    have gi := h
                    obtain ⟨p, q, r, rfl⟩ := cP.shape
                    have h := gi
                    have gj := h
                    obtain ⟨t, C, D, rfl⟩ := bz.shape
                    have h := gj
                    refine WL.store (v := ag [vi ah, vu ac, vi G, (vl p q r), vi H, (vl t C D)]) (cells' := [vi ah, vu ac, vi G, (vl p q r), vi H, (vl t C D)]) ty31 z z d3 z (le_ z) z z ?_
                    intro gk I gl
                    refine nl (At.dq (su_ I z) (WD.y 19 z (by kernel_rfl) (fun _ _ _ => ya z) z (WD.done_ (by kernel_rfl) (th (sq (sq (rg (wY (ym z) z (wY (Y.neq_i z z) z ?_)))))))))
                    refine nl (th ?_)
                    rcases cnd h with ⟨bA, h⟩ | ⟨bA, h⟩
                    ·refine WC.condT' z bA (sq (rg (wY (ya z) z (nl (th (rt (At.thenR (At.inBlockR (At.thenR ?_)))))))))
                     refine At.loopR ?_
                     have h := outr1 h cF dX
                     refine At.joinBR (At.inBlockR ?_)
                     have h := outs1 h dW
                     refine At.joinR (At.thenR ?_)
                     obtain rfl := some1 h
                     have gm : Stp [11, 12, 13, 14, 15, 16, 18, 19, 20, 21, 22, 23, 25, 1001, 1002, 1003, 1004, 1005, 1006, 1009, 1010, 1011, 1012] (Lg.O0 A) w k5 gk := (tr_ (su_ j z) (tr_ (su_ m z) (tr_ (su_ n z) (tr_ (su_ d z) (tr_ (su_ l z) (tr_ (su_ o z) (tr_ (su_ aW z) (tr_ (su_ aq z) (tr_ (su_ aX z) (tr_ (su_ aD z) (su_ I z)))))))))))
                     exact At.res (.inl z) z (.tmp z .nil) ⟨z, (se_ gm z z)⟩
                    ·refine WC.condF' z bA (sk (th (rg (wY (ym z) z (wY (yL ty31 z z (gl.cells 0 [vi ah, vu ac, vi G, (vl p q r), vi H, (vl t C D)] z) z) z ?_)))))
                     have gn := cP.st I z z z
                     obtain ⟨qt, a5, gp⟩ := OwnSl.giveF rfl Flat.u gn
                     have gr := (bz.st I z z z).st a5 z z z
                     obtain ⟨k7, a6, gs⟩ := OwnSl.giveF rfl Flat.u gr
                     have gt := gp.f a6 z
                     refine WL.buildSlice (O := k7) (R := rep_api_Hist) (vals := [(0, ag [vi ah, vu ac, vi G, (vl p q r), vi H, (vl t C D)])]) 24 [vi ah, vu ac, vi G, (vl p q r), vi H, (vl t C D)] (xs := [(api_Hist.mk ah ac (api_Side.mk G nA) (api_Side.mk H k3))]) (by decide) ty40 ty31 (by decide) (by decide) (fe_ z) (by kernel_rfl) z ⟨[vi ah, vu ac, vi G, (vl p q r), vi H, (vl t C D)], [], z, ⟨[vi ah], [vu ac, vi G, (vl p q r), vi H, (vl t C D)], z, z, ⟨[vu ac], [vi G, (vl p q r), vi H, (vl t C D)], z, z, ⟨[vi G, (vl p q r)], [vi H, (vl t C D)], z, ⟨[vi G], [(vl p q r)], z, z, ⟨_, z, (Sl.mono gt frs_imm)⟩⟩, ⟨[vi H], [(vl t C D)], z, z, ⟨_, z, (Sl.mono gs frs_imm)⟩⟩⟩⟩⟩, z⟩ z ?_
                     intro qu qv oH bJ gu
                     obtain ⟨gw, ea, h⟩ := bnd h
                     have gH := (((((cE.st aX z z z).st aD z z z).st I z z z).st a5 z z z).st a6 z z z).st bJ z z z
                     refine WL.append (by decide) ty40 ty31 z (by decide) z z gH gu.src ea z ?_
                     intro k8 k9 oI eb gI
                     refine wY (ya z) z (nl (At.inBlock (th (rg (wY (ym z) z (wY (Y.add_i z z) z ?_))))))
                     obtain ⟨la, gJ, h⟩ := lt1 h
                     refine WL.yE (ya z) (congrArg vi gJ.symm) z (nl ?_)
                     exact At.round (gw, la, k9, k8) ns (Nat.lt_succ_self _) ⟨next1 h cF, (tr_ (su_ aq z) (tr_ (su_ aX z) (tr_ (su_ aD z) (tr_ (su_ I z) (tr_ (su_ a5 z) (tr_ (su_ a6 z) (tr_ (su_ bJ z) (su_ eb z)))))))), gI⟩ (.cons z (.cons z (.cons z (.cons z (.cons z .nil)))))
                  ·refine WC.condF' z cG (WC.exit (At.thenX (At.loopX ?_)))
                   obtain ⟨lb, ec, gK⟩ := OwnSl.rlb 1014 rfl cE
                   exact At.hitB (σ := (List api_Hist × Own × Value)) (nr, lb, cD) ⟨brk1 h cF, (tr_ (su_ aq z) (su_ ec z)), gK⟩ (.cons z (.cons z .nil))
                 ·rintro ⟨nD, rp, gL⟩ qw ⟨rfl, c4, d4⟩
                  replace h := flowK_go dX
                  try dsimp only at h c4 d4
                  refine (show At _ _ _ [(13, ab), (14, gL)] _ from ?_)
                  refine At.inBlockHit ?_
                  obtain ⟨lc, ed, gM⟩ := OwnSl.rlb 1016 rfl d4
                  exact At.join (σ := (List api_Hist × Own × Value)) (nD, lc, gL) ⟨go2 h, (tr_ (su_ c4 z) (su_ ed z)), gM⟩ (.cons z (.cons z .nil))
                ·rintro ⟨rq, nF, gO⟩ qx ⟨rfl, bB, d5⟩
                 replace h := flowK_go dW
                 try dsimp only at h bB d5
                 refine (show At _ _ _ [(13, ab), (14, gO)] _ from ?_)
                 refine th (sq (rg (wY (ym z) z ?_)))
                 have gP := dV.st bB z z z
                 obtain ⟨⟨ai, a9⟩, gQ, h⟩ := bnd h
                 refine WL.call (vals := [ab]) kok12 z z (c_fold_Sum (A := fun _ => True) (gP.src.sl) gQ) ?_
                 rintro oJ c5 ⟨cQ, d6, rfl, gR, ld, lf, lg⟩
                 obtain ⟨cR, nG, bC, bK⟩ := adoptE nF (fun k => if ob cQ = some k then 25 else if ob d6 = some k then 26 else 1) gR
                 have gU : OwnSl 25 Rep.u 26 cR c5 cQ ai.Pos.Counts := RowF.adopt 25 Flat.u ld bC (fun k hk => if_pos hk)
                 have gV : OwnSl 26 Rep.u 26 cR c5 d6 ai.Neg.Counts := RowF.adopt 26 Flat.u lf bC (fun k hk => (if_neg (fun (e : ob cQ = some k) => lg k e hk)).trans (if_pos hk))
                 refine wY (ym z) z (wY (yx z z) z (wY (yx z z) z (WL.alloc (O := cR) 27 hzr ty31 z z ?_)))
                 intro d7 lh oK aE gW
                 have c6 := gU.st aE z z z
                 have gX := h
                 obtain ⟨ba, bb, bc, rfl⟩ := c6.shape
                 have h := gX
                 have c7 := gV.st aE z z z
                 have gY := h
                 obtain ⟨bd, bf, bg, rfl⟩ := c7.shape
                 have h := gY
                 refine WL.store (v := ag (hl ai (vl ba bb bc) (vl bd bf bg))) (cells' := (hl ai (vl ba bb bc) (vl bd bf bg))) ty31 z z gW z (le_ z) z z ?_
                 intro oL aF gZ
                 refine wY (ya z) z (nl (th (sq (rg (wY (ym z) z ?_)))))
                 have g2 := ((d5.st bK z z z).st aE z z z).st aF z z z
                 obtain ⟨⟨aj, bh⟩, g3, h⟩ := bnd h
                 refine WL.call (vals := [gO]) kok12 z z (c_fold_Sum (A := fun _ => True) (g2.src.sl) g3) ?_
                 rintro oM c8 ⟨cS, d8, rfl, g4, li, lj, ll⟩
                 obtain ⟨cT, nH, bD, aG⟩ := adoptE lh (fun k => if ob cS = some k then 28 else if ob d8 = some k then 29 else 1) g4
                 have g5 : OwnSl 28 Rep.u 26 cT c8 cS aj.Pos.Counts := RowF.adopt 28 Flat.u li bD (fun k hk => if_pos hk)
                 have g6 : OwnSl 29 Rep.u 26 cT c8 d8 aj.Neg.Counts := RowF.adopt 29 Flat.u lj bD (fun k hk => (if_neg (fun (e : ob cS = some k) => ll k e hk)).trans (if_pos hk))
                 refine wY (ym z) z (wY (yx z z) z (wY (yx z z) z (WL.alloc (O := cT) 30 hzr ty31 z z ?_)))
                 intro d9 cU oN J g7
                 have c9 := g5.st J z z z
                 have g8 := h
                 obtain ⟨bi, bj, bk, rfl⟩ := c9.shape
                 have h := g8
                 have da := g6.st J z z z
                 have g9 := h
                 obtain ⟨bl, bm, bn, rfl⟩ := da.shape
                 have h := g9
                 refine WL.store (v := ag (hl aj (vl bi bj bk) (vl bl bm bn))) (cells' := (hl aj (vl bi bj bk) (vl bl bm bn))) ty31 z z g7 z (le_ z) z z ?_
                 intro db K ha
                 refine wY (ya z) z (nl (th (sq (rg (wY (ym z) z (wY (Y.neq_i z z) z (wY (ym z) z ?_)))))))
                 refine WL.cut 3 (σ := Unit) (fun _ w' => db = w') (fun _ => [(22, pt d7 0), (24, pt d9 0), (241, vB ((!decide (a9 = 0)) || (!decide (bh = 0))))]) ?_ ?_
                 ·refine WL.part 238 z (fun bE => ?_) (fun bE => ?_)
                  ·refine WL.gS z z z z (WL.gS z z z z (wY (Y.pick (b := true) z z) z (WL.ren (v' := vB ((!decide (a9 = 0)) || (!decide (bh = 0)))) 241 z (congrArg vB (orT bE)) ?_)))
                   exact nl (At.join () z (.cons z (.cons z (.cons z .nil))))
                  ·refine ug z z (wY (ym z) z (ug z z (wY (Y.neq_i z z) z (wY (Y.pick (b := false) z z) z (WL.ren (v' := vB ((!decide (a9 = 0)) || (!decide (bh = 0)))) 241 z (congrArg vB (orF bE)) ?_)))))
                   exact nl (At.join () z (.cons z (.cons z (.cons z .nil))))
                 ·rintro _ _ rfl
                  refine (show WL _ _ _ _ _ [(22, pt d7 0), (24, pt d9 0), (241, vB ((!decide (a9 = 0)) || (!decide (bh = 0))))] _ from ?_)
                  refine wY (ym z) z ?_
                  obtain ⟨lm, h, hc⟩ := bnd h
                  refine WL.cut 4 (σ := (Bool × Own)) (fun x w' => x.1 = lm ∧ Stp [] cU db x.2 w') (fun x => [(246, vB x.1)]) ?_ ?_
                  ·rcases cnd h with ⟨bF, h⟩ | ⟨bF, h⟩
                   ·refine WL.ren 242 z (congrArg vB bF) (WL.gS z z z z (WL.gS z z z z (WL.gS z z z z (wY (Y.pick (b := true) z z) z ?_))))
                    exact nl (At.join (σ := (Bool × Own)) (true, cU) ⟨some1 h, (sr_ _ _ _)⟩ (.cons z .nil))
                   ·refine WL.ren 242 z (congrArg vB bF) (ug z z ?_)
                    have hf := ((gZ.st aG z).st J z).st K z
                    refine wY (yL ty31 z z (hf.cells 0 (hl ai (vl ba bb bc) (vl bd bf bg)) z) z) z (ug z z (wY (yL ty31 z z (ha.cells 0 (hl aj (vl bi bj bk) (vl bl bm bn)) z) z) z (ug z z ?_)))
                    have hj := (((c6.st aF z z z).st aG z z z).st J z z z).st K z z z
                    have hp := (((c7.st aF z z z).st aG z z z).st J z z z).st K z z z
                    have hq := c9.st K z z z
                    have hr := da.st K z z z
                    obtain ⟨ln, hs, h⟩ := bnd h
                    refine WL.call (vals := [ag (hl ai (vl ba bb bc) (vl bd bf bg)), ag (hl aj (vl bi bj bk) (vl bl bm bn))]) kok13 z z (c_hist_Same (A := fun _ => True) (a0 := ai) (a1 := aj) (hj.src.sl) (hp.src.sl) (hq.src.sl) (hr.src.sl) hs) ?_
                    rintro oO oP ⟨rfl, ht⟩
                    obtain ⟨lo, nI, nJ, ee⟩ := adoptE cU (fun k => 1) ht
                    refine wY (Y.pick (b := false) z z) z ?_
                    exact nl (At.join (σ := (Bool × Own)) (ln, lo) ⟨some1 h, (su_ ee z)⟩ (.cons z .nil))
                  ·rintro ⟨lp, lq⟩ hu ⟨rfl, bL⟩
                   replace h := hc
                   try dsimp only at h bL
                   refine (show WL _ _ _ _ _ [(246, vB lp)] _ from ?_)
                   refine wY (ya z) z (nl (th (rt ?_)))
                   obtain rfl := some1 h
                   have hv : Stp [11, 12, 13, 14, 15, 16, 18, 19, 20, 21, 22, 23, 25, 27, 30, 1001, 1002, 1003, 1004, 1005, 1006, 1009, 1010, 1011, 1012, 1013, 1014] (Lg.O0 A) w lq hu := (tr_ (su_ j z) (tr_ (su_ m z) (tr_ (su_ n z) (tr_ (su_ d z) (tr_ (su_ l z) (tr_ (su_ o z) (tr_ (su_ aW z) (tr_ (su_ bB z) (tr_ (su_ bK z) (tr_ (su_ aE z) (tr_ (su_ aF z) (tr_ (su_ aG z) (tr_ (su_ J z) (tr_ (su_ K z) (su_ bL z)))))))))))))))
                   exact At.res (.inl z) z (.tmp z .nil) ⟨z, (se_ hv z z)⟩
end Go.Lg
