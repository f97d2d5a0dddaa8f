/- The walks of OtlpBack and of what it calls, printed by gen.py. -/
import Derived.Test.YtihlealbhlgikaaObLgObWOtlpBackx2
set_option linter.unusedVariables false
namespace Go.Lg
open Go Go.Proofs
set_option maxRecDepth 100000
set_option maxHeartbeats 4000000
theorem c_otlp_Decode {A : Nat → Prop} {a0 : List UInt8} {v0 : Value} {w : World} (hs0 : Sl Rep.b w A v0 a0) {r0 : List api_Point} {r1 : Int} (h : otlp_Decode a0 = some (r0, r1)) : Rets Try.prog 16 [v0] w (fun v w' => ∃ (u0 : Value), v = tp [u0, vi r1] ∧ Ext w w' ∧ Sl rep_api_Point w' (fun k => w.heap.size ≤ k) u0 r0) := by
 unfold otlp_Decode at h
 refine Rets.enter Try.func16 z z ?_
 have xj : Sl Rep.b w (imm (Lg.O0 A)) v0 a0 := (Sl.start hs0)
 refine (show WC _ _ _ _ [(0, v0)] _ from ?_)
 refine sq (rg (wY (ya z) z (wY (ya z) z (nl (th (sq (rg (wY (yb (vals := []) (cells := [vi 0, sn]) (fe_ z) (by kernel_rfl)) z (WL.box (O := (Lg.O0 A)) 11 [vi 0, sn] z z z ?_)))))))))
 intro c zG B0 bJ xk
 refine wY (ya z) z (nl (th (sq (sq (rg (wY (ym z) z (wY (ym z) z (WL.makeMap (O := zG) 12 z ?_))))))))
 intro zH xe B1 bC xl
 refine WL.insert (a := 1) (b := 2) ty77.u ty3.u z z z xl z ?_
 intro B2 bD dE
 replace dE : MBlk _ _ _ _ [(1, 2)] := dE
 refine wY (ym z) z ?_
 have dF := (xk.st bC z).st bD z
 have xp := ((xj.i bJ z z).i bC z z).i bD z z
 obtain ⟨⟨zI, xf⟩, xq, h⟩ := bnd h
 refine WL.call (vals := [pt c 0, v0, Value.map (some zH)]) kok32 z z (c_otlp_reader_open (A := out [11] xe) (a0 := (otlp_reader.mk 0 [])) dF.blk (Sl.notin (L := [11]) xp z z) ⟨_, z, (out_lab dE.lab z), dE.blk⟩ (fun k hk => out_ne dF.lab z k hk) xq) ?_
 rintro ib ic ⟨_, rfl, xr, zJ, zK⟩
 obtain ⟨ie, ig, ih, bO⟩ := adopt xe (fun k => 1) [11] xr (memB dF.lab rfl)
 have xt : Sl rep_api_Fld ic (frs ie) ib zI := Sl.adoptF zJ (fun k hk => ⟨hk, z⟩) ih
 have xu : Blk 11 ie ic c 74 [vi xf.e, sn] := Blk.adopt dF ig zK
 obtain ⟨cg, xv, h⟩ := bnd h
 refine WL.call (vals := [ib, vi 1]) kok31 z z (c_wire_All (A := fun _ => True) (Sl.all xt) xv) ?_
 rintro bX dG ⟨_, rfl, xw, zL⟩
 obtain ⟨eY, zM, ii, bK⟩ := adoptE ie (fun k => 1) xw
 have ij : Sl rep_api_Fld dG (frs eY) bX cg := Sl.adoptF zL (fun k hk => ⟨hk, z⟩) ii
 refine wY (Y.len ty66 z ij) z (wY (ym z) z (nl (th ?_)))
 obtain ⟨zN, h, xx⟩ := bnd h
 refine WC.join (σ := (Int × List api_Point × Own × Value)) (fun x w' => (x.1, x.2.1) = zN ∧ Stp [11, 13, 14, 15, 16, 17, 19, 20, 21, 22, 23, 24, 25, 28, 30, 31, 1001, 1002, 1006, 1007, 1008, 1009, 1010, 1011, 1012, 1013, 1014, 1020, 1021] eY dG x.2.2.1 w' ∧ OwnSl 1016 (frR rep_api_Point w.heap.size) 33 x.2.2.1 w' x.2.2.2 x.2.1 ∧ Blk 11 x.2.2.1 w' c 74 [vi x.1, x.2.2.2]) (fun x => [(4, pt c 0)]) ?_ ?_
 ·refine WC.block ?_
  obtain ⟨xg, h, xy⟩ := flow1 h
  obtain ⟨xh, h⟩ := loop_some h
  refine WC.joinB 0 (σ := (Int × List api_Point × Own × Value)) (fun x w' => xg = .go (x.1, x.2.1) ∧ Stp [11, 13, 14, 15, 16, 17, 19, 20, 21, 22, 23, 24, 25, 28, 30, 31, 1001, 1002, 1006, 1007, 1008, 1009, 1010, 1011, 1012, 1013, 1020, 1021] eY dG x.2.2.1 w' ∧ OwnSl 1014 (frR rep_api_Point w.heap.size) 33 x.2.2.1 w' x.2.2.2 x.2.1 ∧ Blk 11 x.2.2.1 w' c 74 [vi x.1, x.2.2.2]) (fun x => [(4, pt c 0)]) ?_ ?_
  ·have xz := xu.st bK z
   refine WC.loop (σ := (Int × List api_Point × Int × Own × Value)) (fun x k w' => loopN k (otlp_Decode_lp1 cg) (x.1, x.2.1, x.2.2.1) = some xg ∧ Stp [11, 13, 14, 15, 16, 17, 19, 20, 21, 22, 23, 24, 25, 28, 30, 31, 1001, 1002, 1006, 1007, 1008, 1009, 1010, 1011, 1012, 1013, 1020, 1021] eY dG x.2.2.2.1 w' ∧ OwnSl 1013 (frR rep_api_Point w.heap.size) 33 x.2.2.2.1 w' x.2.2.2.2 x.2.1 ∧ Blk 11 x.2.2.2.1 w' c 74 [vi x.1, x.2.2.2.2]) (fun x => [(4, pt c 0), (18, bX), (19, vi (cg.length : Int)), (20, vi x.2.2.1)]) (xf.e, [], 0, eY, sn) xh (.cons z (.cons z (.cons z (.cons z .nil)))) ⟨h, (sr_ _ _ _), (OwnSl.nil 1013 (frR rep_api_Point w.heap.size) 33), xz⟩ ?_
   rintro ⟨xi, gi, cC, zO, gj⟩ xh B3 ⟨h, bL, fv, fw⟩
   obtain ⟨zP, Cq, rfl, h, ik⟩ := rnd1 h
   unfold otlp_Decode_lp1 at h
   try dsimp only at h bL fv fw
   refine (show WC _ _ _ _ [(4, pt c 0), (18, bX), (19, vi (cg.length : Int)), (20, vi cC)] _ from ?_)
   refine sq (rg (wY (Y.lss_i z z) z (nl (th (sq ?_)))))
   rcases cnd h with ⟨fx, h⟩ | ⟨fx, h⟩
   ·refine WC.condT' z fx (sk (th (sq (WC.block (sq (rg ?_))))))
    obtain ⟨cj, xA, h⟩ := bnd h
    have pC := ij.f bL z
    obtain ⟨Cr, zQ, zR, B4, xB, xC, xD, fy, pD, pE⟩ := Sl.at2 pC xA
    obtain ⟨_, _, rfl, rfl, ⟨_, _, rfl, rfl, ⟨_, _, rfl, rfl, ⟨xE, rfl, pF⟩⟩⟩⟩ := pD
    replace fy : CellsAt _ _ _ [vi cj.Num, vi cj.Type_, vu cj.V, xE] := fy
    have il := CAt.frs fy pE
    refine wY (Y.indexAddr ty66 ty68 z xB z xC xD) z (wY (yL ty68 z z il.at_ z) z (WL.alloc (O := zO) 13 [vi 0, vi 0, vu 0, sn] ty68 z z ?_))
    intro B5 xG AF bn pG
    have gk := pF.f bn z
    have pH := h
    obtain ⟨fz, fA, fB, rfl⟩ := gk.shape
    have h := pH
    refine WL.store (v := ag [vi cj.Num, vi cj.Type_, vu cj.V, (vl fz fA fB)]) (cells' := [vi cj.Num, vi cj.Type_, vu cj.V, (vl fz fA fB)]) ty68 z z pG z (le_ z) z z ?_
    intro AG bo pI
    refine nl (th (sq (rg (wY (ym z) z (wY (yf fo68_3 z) z (wY (yl ty45 z z (pI.cell 3 _ z)) z (WL.makeMap (O := xG) 14 z ?_)))))))
    intro xH im AH bp pJ
    refine WL.insert (a := 1) (b := 2) ty77.u ty3.u z z z pJ z ?_
    intro AI bq dH
    replace dH : MBlk _ _ _ _ [(1, 2)] := dH
    refine WL.insert (a := 2) (b := 2) ty77.u ty3.u z z z dH z ?_
    intro AJ br cD
    replace cD : MBlk _ _ _ _ [(1, 2), (2, 2)] := cD
    refine wY (ym z) z ?_
    have cE := ((((fw.st bn z).st bo z).st bp z).st bq z).st br z
    have pR := (((gk.f bo z).f bp z).f bq z).f br z
    obtain ⟨⟨xI, io⟩, pS, h⟩ := bnd h
    refine WL.call (vals := [pt c 0, (vl fz fA fB), Value.map (some xH)]) kok32 z z (c_otlp_reader_open (A := out [11] im) (a0 := (otlp_reader.mk xi gi)) cE.blk (Sl.notin (L := [11]) (Sl.mono pR frs_imm) z z) ⟨_, z, (out_lab cD.lab z), cD.blk⟩ (fun k hk => out_ne cE.lab z k hk) pS) ?_
    rintro dI gl ⟨_, rfl, pT, xJ, xK⟩
    obtain ⟨fC, hH, hI, bM⟩ := adopt im (fun k => 1) [11] pT (memB cE.lab rfl)
    have gm : Sl rep_api_Fld gl (frs fC) dI xI := Sl.adoptF xJ (fun k hk => ⟨hk, z⟩) hI
    have pU : Blk 11 fC gl c 74 [vi io.e, gj] := Blk.adopt cE hH xK
    refine wY (ya z) z (nl (th (sq (rg (wY (ym z) z (wY (ym z) z ?_))))))
    obtain ⟨xL, pV, h⟩ := bnd h
    refine WL.call (vals := [dI, vi 1]) kok31 z z (c_wire_All (A := fun _ => True) (Sl.all gm) pV) ?_
    rintro gn pW ⟨_, rfl, pX, xM⟩
    obtain ⟨fD, zq, hJ, bs⟩ := adoptE fC (fun k => 1) pX
    have pY : Sl rep_api_Fld pW (frs fD) gn xL := Sl.adoptF xM (fun k hk => ⟨hk, z⟩) hJ
    have cF := pU.st bs z
    obtain ⟨⟨ip, iq⟩, pZ, h⟩ := bnd h
    refine WL.call (vals := [pt c 0, gn]) kok33 z z (c_otlp_reader_attrs (A := out [11] fD) (a0 := (otlp_reader.mk io.e gi)) cF.blk (Sl.notin (L := [11]) (Sl.mono pY frs_imm) z z) (fun k hk => out_ne cF.lab z k hk) pZ) ?_
    rintro aP gp ⟨_, rfl, p0, xN, xO⟩
    obtain ⟨fF, hK, hL, bE⟩ := adopt fD (fun k => if ob aP = some k then 15 else 1) [11] p0 (memB cF.lab rfl)
    have p1 : OwnSl 15 rep_api_Pair 65 fF gp aP ip := RowF.adopt 15 flat_api_Pair xN hL (fun k hk => if_pos hk)
    have p3 : Blk 11 fF gp c 74 [vi iq.e, gj] := Blk.adopt cF hK xO
    refine wY (ya z) z (nl (th (sq (rg (wY (ym z) z ?_)))))
    have p5 := (gm.f bs z).f bE z
    obtain ⟨dJ, p6, h⟩ := bnd h
    refine WL.call (vals := [dI, vi 2]) kok31 z z (c_wire_All (A := fun _ => True) (Sl.all p5) p6) ?_
    rintro dK cG ⟨_, rfl, p8, xP⟩
    obtain ⟨dL, zr, hM, bt⟩ := adoptE fF (fun k => 1) p8
    have gq : Sl rep_api_Fld cG (frs dL) dK dJ := Sl.adoptF xP (fun k hk => ⟨hk, z⟩) hM
    refine wY (Y.len ty66 z gq) z (wY (ym z) z (nl (th ?_)))
    obtain ⟨xQ, h, p9⟩ := bnd h
    refine WC.join (σ := (Int × List api_Point × Own × Value)) (fun x w' => (x.1, x.2.1) = xQ ∧ Stp [11, 15, 16, 17, 19, 20, 21, 22, 23, 24, 25, 28, 30, 31, 1001, 1002, 1006, 1007, 1008, 1009, 1010, 1011, 1013, 1020, 1021] dL cG x.2.2.1 w' ∧ OwnSl 1012 (frR rep_api_Point w.heap.size) 33 x.2.2.1 w' x.2.2.2 x.2.1 ∧ Blk 11 x.2.2.1 w' c 74 [vi x.1, x.2.2.2]) (fun x => [(4, pt c 0), (18, bX), (19, vi (cg.length : Int)), (20, vi cC)]) ?_ ?_
    ·refine WC.block ?_
     obtain ⟨ir, h, qa⟩ := flow1 h
     obtain ⟨it, h⟩ := loop_some h
     refine WC.joinB 2 (σ := (Int × List api_Point × Own × Value)) (fun x w' => ir = .go (x.1, x.2.1) ∧ Stp [11, 15, 16, 17, 19, 20, 21, 22, 23, 24, 25, 28, 30, 31, 1001, 1002, 1006, 1007, 1008, 1009, 1010, 1013, 1020, 1021] dL cG x.2.2.1 w' ∧ OwnSl 1011 (frR rep_api_Point w.heap.size) 33 x.2.2.1 w' x.2.2.2 x.2.1 ∧ Blk 11 x.2.2.1 w' c 74 [vi x.1, x.2.2.2]) (fun x => [(4, pt c 0), (18, bX), (19, vi (cg.length : Int)), (20, vi cC)]) ?_ ?_
     ·have qj := ((((((((fv.st bn z z z).st bo z z z).st bp z z z).st bq z z z).st br z z z).st bM z z z).st bs z z z).st bE z z z).st bt z z z
      obtain ⟨B6, cY, qk⟩ := OwnSl.rlb 1010 rfl qj
      have qm := (p1.st bt z z z).st cY z z z
      obtain ⟨xR, cZ, qn⟩ := OwnSl.giveF rfl flat_api_Pair qm
      have qo := qk.st cZ z z z
      have qr := ((p3.st bt z).st cY z).st cZ z
      refine WC.loop (σ := (Int × List api_Point × List api_Pair × Int × Own × Value)) (fun x k w' => loopN k (otlp_Decode_lp2 dJ) (x.1, x.2.1, x.2.2.1, x.2.2.2.1) = some ir ∧ Stp [11, 15, 16, 17, 19, 20, 21, 22, 23, 24, 25, 28, 30, 31, 1001, 1002, 1006, 1007, 1008, 1009, 1010, 1013, 1020, 1021] dL cG x.2.2.2.2.1 w' ∧ OwnSl 1010 (frR rep_api_Point w.heap.size) 33 x.2.2.2.2.1 w' x.2.2.2.2.2 x.2.1 ∧ Blk 11 x.2.2.2.2.1 w' c 74 [vi x.1, x.2.2.2.2.2] ∧ Sl rep_api_Pair w' (frs x.2.2.2.2.1) aP x.2.2.1) (fun x => [(4, pt c 0), (8, aP), (18, bX), (19, vi (cg.length : Int)), (20, vi cC), (35, dK), (36, vi (dJ.length : Int)), (37, vi x.2.2.2.1)]) (iq.e, gi, ip, 0, xR, gj) it (.cons z (.cons z (.cons z (.cons z (.cons z (.cons z (.cons z (.cons z .nil)))))))) ⟨h, (tr_ (su_ cY z) (su_ cZ z)), qo, qr, qn⟩ ?_
      rintro ⟨iu, ch, bQ, iv, xS, ci⟩ it AK ⟨h, bu, cH, dM, dN⟩
      obtain ⟨xT, B7, rfl, h, gr⟩ := rnd1 h
      unfold otlp_Decode_lp2 at h
      try dsimp only at h bu cH dM dN
      refine (show WC _ _ _ _ [(4, pt c 0), (8, aP), (18, bX), (19, vi (cg.length : Int)), (20, vi cC), (35, dK), (36, vi (dJ.length : Int)), (37, vi iv)] _ from ?_)
      refine sq (rg (wY (Y.lss_i z z) z (nl (th (sq ?_)))))
      rcases cnd h with ⟨dO, h⟩ | ⟨dO, h⟩
      ·refine WC.condT' z dO (sk (th (sq (WC.block (sq (rg ?_))))))
       obtain ⟨bY, qs, h⟩ := bnd h
       have qt := gq.f bu z
       obtain ⟨B8, zS, zT, AL, qu, qv, qw, dP, iw, qx⟩ := Sl.at2 qt qs
       obtain ⟨_, _, rfl, rfl, ⟨_, _, rfl, rfl, ⟨_, _, rfl, rfl, ⟨xU, rfl, qy⟩⟩⟩⟩ := iw
       replace dP : CellsAt _ _ _ [vi bY.Num, vi bY.Type_, vu bY.V, xU] := dP
       have iy := CAt.frs dP qx
       refine wY (Y.indexAddr ty66 ty68 z qu z qv qw) z (wY (yL ty68 z z iy.at_ z) z (WL.alloc (O := xS) 16 [vi 0, vi 0, vu 0, sn] ty68 z z ?_))
       intro B9 iz AM aQ qz
       have gs := qy.f aQ z
       have qA := h
       obtain ⟨c0, c1, c2, rfl⟩ := gs.shape
       have h := qA
       refine WL.store (v := ag [vi bY.Num, vi bY.Type_, vu bY.V, (vl c0 c1 c2)]) (cells' := [vi bY.Num, vi bY.Type_, vu bY.V, (vl c0 c1 c2)]) ty68 z z qz z (le_ z) z z ?_
       intro qB aR qC
       refine nl (th (rg (wY (ym z) z (wY (yf fo68_3 z) z (wY (yl ty45 z z (qC.cell 3 _ z)) z (wY (ym z) z ?_))))))
       obtain ⟨xV, h, qD⟩ := bnd h
       refine WL.callJ (vals := [pt c 0, (vl c0 c1 c2), aP]) (σ := (Int × List api_Point × List api_Pair × Own × Value)) (fun x w' => (x.1, x.2.1, x.2.2.1) = xV ∧ Stp [11, 17, 19, 20, 21, 22, 23, 24, 25, 28, 30, 31, 1001, 1002, 1006, 1007, 1008, 1010, 1020, 1021] iz qB x.2.2.2.1 w' ∧ OwnSl 1009 (frR rep_api_Point w.heap.size) 33 x.2.2.2.1 w' x.2.2.2.2 x.2.1 ∧ Blk 11 x.2.2.2.1 w' c 74 [vi x.1, x.2.2.2.2] ∧ Sl rep_api_Pair w' (frs x.2.2.2.1) aP x.2.2.1) (fun x => tp []) kok34 z z ?_ ?_
       ·refine Rets.enter Try.func34 z z ?_
        refine (show WC _ _ _ _ [(0, pt c 0), (1, (vl c0 c1 c2)), (2, aP)] _ from ?_)
        refine sq (rg (wY (ym z) z (wY (ym z) z (WL.makeMap (O := iz) 17 z ?_))))
        intro xW iA AN aD qE
        refine WL.insert (a := 1) (b := 2) ty77.u ty3.u z z z qE z ?_
        intro AO aE dQ
        replace dQ : MBlk _ _ _ _ [(1, 2)] := dQ
        refine WL.insert (a := 5) (b := 2) ty77.u ty3.u z z z dQ z ?_
        intro AP aF dR
        replace dR : MBlk _ _ _ _ [(1, 2), (5, 2)] := dR
        refine WL.insert (a := 7) (b := 2) ty77.u ty3.u z z z dR z ?_
        intro AQ aG dS
        replace dS : MBlk _ _ _ _ [(1, 2), (5, 2), (7, 2)] := dS
        refine WL.insert (a := 10) (b := 2) ty77.u ty3.u z z z dS z ?_
        intro AR aH dT
        replace dT : MBlk _ _ _ _ [(1, 2), (5, 2), (7, 2), (10, 2)] := dT
        refine WL.insert (a := 30) (b := 2) ty77.u ty3.u z z z dT z ?_
        intro AS aI cI
        replace cI : MBlk _ _ _ _ [(1, 2), (5, 2), (7, 2), (10, 2), (30, 2)] := cI
        refine wY (ym z) z ?_
        have cJ := (((((((dM.st aQ z).st aR z).st aD z).st aE z).st aF z).st aG z).st aH z).st aI z
        have qS := ((((((gs.f aR z).f aD z).f aE z).f aF z).f aG z).f aH z).f aI z
        obtain ⟨⟨iB, iC⟩, qT, h⟩ := bnd h
        refine WL.call (vals := [pt c 0, (vl c0 c1 c2), Value.map (some xW)]) kok32 z z (c_otlp_reader_open (A := out [11] iA) (a0 := (otlp_reader.mk iu ch)) cJ.blk (Sl.notin (L := [11]) (Sl.mono qS frs_imm) z z) ⟨_, z, (out_lab cI.lab z), cI.blk⟩ (fun k hk => out_ne cJ.lab z k hk) qT) ?_
        rintro bG gt ⟨_, rfl, qU, xX, xY⟩
        obtain ⟨fG, hN, hO, aY⟩ := adopt iA (fun k => 1) [11] qU (memB cJ.lab rfl)
        have gu : Sl rep_api_Fld gt (frs fG) bG iB := Sl.adoptF xX (fun k hk => ⟨hk, z⟩) hO
        have qV : Blk 11 fG gt c 74 [vi iC.e, ci] := Blk.adopt cJ hN xY
        refine wY (ya z) z (nl (th (sq (rg (wY (ya z) z (nl (th (sq (sq ?_)))))))))
        refine rg (WL.buildSlice (O := fG) (R := Rep.i) (vals := [(0, vi 5), (1, vi 7), (2, vi 10), (3, vi 30)]) 18 [vi 5, vi 7, vi 10, vi 30] (xs := [5, 7, 10, 30]) (by decide) ty121 ty3 (by decide) (by decide) (fe_ z) (by kernel_rfl) z ⟨[vi 5], [vi 7, vi 10, vi 30], z, z, ⟨[vi 7], [vi 10, vi 30], z, z, ⟨[vi 10], [vi 30], z, z, ⟨[vi 30], [], z, z, z⟩⟩⟩⟩ z ?_)
        intro iD dU dV Z gw
        refine wY (Y.len ty121 z gw.src.sl) z (wY (ym z) z (nl (th ?_)))
        obtain ⟨xZ, h, qW⟩ := bnd h
        refine WC.join (σ := (List api_Fld × Own × Value)) (fun x w' => x.1 = xZ ∧ Stp [1001, 1002] dU dV x.2.1 w' ∧ OwnSl 1003 (frR rep_api_Fld w.heap.size) 68 x.2.1 w' x.2.2 x.1) (fun x => [(0, pt c 0), (2, aP), (6, bG), (7, x.2.2)]) ?_ ?_
        ·refine WC.block ?_
         obtain ⟨iE, h, qX⟩ := flow1 h
         obtain ⟨iF, h⟩ := loop_some h
         refine WC.joinB 0 (σ := (List api_Fld × Own × Value)) (fun x w' => iE = .go x.1 ∧ Stp [1001] dU dV x.2.1 w' ∧ OwnSl 1002 (frR rep_api_Fld w.heap.size) 68 x.2.1 w' x.2.2 x.1) (fun x => [(0, pt c 0), (2, aP), (6, bG), (7, x.2.2)]) ?_ ?_
         ·refine WC.loop (σ := (List api_Fld × Int × Own × Value)) (fun x k w' => loopN k (otlp_Decode_lp3 iB) (x.1, x.2.1) = some iE ∧ Stp [1001] dU dV x.2.2.1 w' ∧ OwnSl 1001 (frR rep_api_Fld w.heap.size) 68 x.2.2.1 w' x.2.2.2 x.1) (fun x => [(0, pt c 0), (2, aP), (6, bG), (7, x.2.2.2), (22, iD), (23, vi ([5, 7, 10, 30].length : Int)), (24, vi x.2.1)]) ([], 0, dU, sn) iF (.cons z (.cons z (.cons z (.cons z (.cons z (.cons z (.cons z .nil))))))) ⟨h, (sr_ _ _ _), (OwnSl.nil 1001 (frR rep_api_Fld w.heap.size) 68)⟩ ?_
          rintro ⟨fH, iG, x0, iH⟩ iF AT ⟨h, bT, dW⟩
          obtain ⟨x1, Ca, rfl, h, gz⟩ := rnd1 h
          unfold otlp_Decode_lp3 at h
          try dsimp only at h bT dW
          refine (show WC _ _ _ _ [(0, pt c 0), (2, aP), (6, bG), (7, iH), (22, iD), (23, vi ([5, 7, 10, 30].length : Int)), (24, vi iG)] _ from ?_)
          refine sq (rg (wY (Y.lss_i z z) z (nl (th (sq ?_)))))
          rcases cnd h with ⟨dX, h⟩ | ⟨dX, h⟩
          ·refine WC.condT' z dX (sk (th (sq (WC.block (sq (rg ?_))))))
           obtain ⟨iI, qY, h⟩ := bnd h
           have gB := gw.st bT z z z
           obtain ⟨Cb, zV, AU, gC, qZ, q0, dY, iJ⟩ := OwnSl.at gB qY
           obtain rfl := iJ
           replace dY : CellsAt _ _ _ [vi iI] := dY
           have iK := CAt.own gB gC dY
           refine wY (Y.indexAddr ty121 ty3 z gC z qZ q0) z (wY (yl ty3 z z iK.at_) z (wY (ya z) z (nl (th (rg (wY (ym z) z (wY (ym z) z (wY (ym z) z ?_))))))))
           have q2 := (gu.f Z z).f bT z
           obtain ⟨x2, q3, h⟩ := bnd h
           refine WL.call (vals := [bG, vi iI]) kok31 z z (c_wire_All (A := fun _ => True) (Sl.all q2) q3) ?_
           rintro q4 gE ⟨_, rfl, q5, x3⟩
           obtain ⟨iL, zs, hP, c3⟩ := adoptE x0 (fun k => 1) q5
           have q6 : Sl rep_api_Fld gE (frs iL) q4 x2 := Sl.adoptF x3 (fun k hk => ⟨hk, z⟩) hP
           obtain ⟨q7, iM, h⟩ := bnd h
           have q8 : Stp [11, 12, 13, 14, 15, 16, 17, 19, 20, 21, 22, 23, 24, 25, 28, 30, 31, 1001, 1002, 1006, 1007, 1008, 1009, 1010, 1011, 1012, 1013, 1020, 1021] (Lg.O0 A) w iL gE := (tr_ (su_ bJ z) (tr_ (su_ bC z) (tr_ (su_ bD z) (tr_ (su_ bO z) (tr_ (su_ bK z) (tr_ (su_ bL z) (tr_ (su_ bn z) (tr_ (su_ bo z) (tr_ (su_ bp z) (tr_ (su_ bq z) (tr_ (su_ br z) (tr_ (su_ bM z) (tr_ (su_ bs z) (tr_ (su_ bE z) (tr_ (su_ bt z) (tr_ (su_ bu z) (tr_ (su_ aQ z) (tr_ (su_ aR z) (tr_ (su_ aD z) (tr_ (su_ aE z) (tr_ (su_ aF z) (tr_ (su_ aG z) (tr_ (su_ aH z) (tr_ (su_ aI z) (tr_ (su_ aY z) (tr_ (su_ Z z) (tr_ (su_ bT z) (su_ c3 z))))))))))))))))))))))))))))
           have q9 := dW.st c3 z z z
           refine WL.append (by decide) ty66 ty68 z (by decide) z z q9 (Sl.srcB (Sl.frB q6 q8 low0)) iM z ?_
           intro x4 x5 AV iN ra
           refine wY (ya z) z (nl (At.inBlock (th (rg (wY (Y.add_i z z) z (wY (ym z) z (nl ?_)))))))
           exact At.round (q7, w64 (iG + 1), x5, x4) x1 (Nat.lt_succ_self _) ⟨next1 h gz, (tr_ (su_ bT z) (tr_ (su_ c3 z) (su_ iN z))), ra⟩ (.cons z (.cons z (.cons z (.cons z (.cons z (.cons z (.cons z .nil)))))))
          ·refine WC.condF' z dX (WC.exit (At.thenX (At.loopX ?_)))
           obtain ⟨x6, iO, rb⟩ := OwnSl.rlb 1002 rfl dW
           exact At.hitB (σ := (List api_Fld × Own × Value)) (fH, x6, iH) ⟨brk1 h gz, (tr_ (su_ bT z) (su_ iO z)), rb⟩ (.cons z (.cons z (.cons z (.cons z .nil))))
         ·rintro ⟨fI, Cc, iP⟩ AW ⟨rfl, eZ, gG⟩
          replace h := flowK_go qX
          try dsimp only at h eZ gG
          refine (show At _ _ _ [(0, pt c 0), (2, aP), (6, bG), (7, iP)] _ from ?_)
          refine At.inBlockHit ?_
          obtain ⟨x7, iQ, rc⟩ := OwnSl.rlb 1003 rfl gG
          exact At.join (σ := (List api_Fld × Own × Value)) (fI, x7, iP) ⟨some1 h, (tr_ (su_ eZ z) (su_ iQ z)), rc⟩ (.cons z (.cons z (.cons z (.cons z .nil))))
        ·rintro ⟨fJ, x8, x9⟩ AX ⟨rfl, aJ, dZ⟩
         replace h := qW
         try dsimp only at h aJ dZ
         refine (show At _ _ _ [(0, pt c 0), (2, aP), (6, bG), (7, x9)] _ from ?_)
         refine th (sq (rg (wY (ym z) z (wY (ym z) z (wY (Y.len ty66 z (Sl.unfr dZ.src.sl)) z (wY (Y.neq_i z z) z ?_))))))
         have d0 := (qV.st Z z).st aJ z
         obtain ⟨fK, re, h⟩ := bnd h
         refine WL.call (vals := [pt c 0, vB (!decide ((fJ.length : Int) = 1)), vi 3]) kok69 z z (c_otlp_reader_fail (a0 := (otlp_reader.mk iC.e ch)) d0.blk re) ?_
         rintro AY rf ⟨rfl, rh, yc⟩
         obtain ⟨iR, hQ, zt, aS⟩ := adopt x8 (fun k => 1) [11] rh (memB d0.lab rfl)
         have d1 : Blk 11 iR rf c 74 [vi fK.e, ci] := Blk.adopt d0 hQ yc
         refine nl (th (sq (sq (rg (wY (ym z) z (wY (yn z) z (wY (yf fo74_0 z) z (wY (yl ty34 z z (d1.cell 0 _ z)) z (wY (Y.neq_i z z) z ?_)))))))))
         refine nl (th ?_)
         rcases cnd h with ⟨d2, h⟩ | ⟨d2, h⟩
         ·refine WC.condT' z d2 (rt (At.thenR ?_))
          have ru := (((((((((((cH.st aQ z z z).st aR z z z).st aD z z z).st aE z z z).st aF z z z).st aG z z z).st aH z z z).st aI z z z).st aY z z z).st Z z z z).st aJ z z z).st aS z z z
          obtain ⟨yd, c4, rv⟩ := OwnSl.rlb 1009 rfl ru
          have rx := d1.st c4 z
          have rM := ((((((((((((dN.f aQ z).f aR z).f aD z).f aE z).f aF z).f aG z).f aH z).f aI z).f aY z).f Z z).f aJ z).f aS z).f c4 z
          exact At.res (.inl z) z .nil ⟨(fK.e, ch, bQ, yd, ci), ⟨some1 h, (tr_ (su_ aD z) (tr_ (su_ aE z) (tr_ (su_ aF z) (tr_ (su_ aG z) (tr_ (su_ aH z) (tr_ (su_ aI z) (tr_ (su_ aY z) (tr_ (su_ Z z) (tr_ (su_ aJ z) (tr_ (su_ aS z) (su_ c4 z))))))))))), rv, rx, rM⟩, z⟩
         ·refine WC.condF' z d2 (sk (th (sq (rg (WL.makeMap (O := iR) 19 z ?_)))))
          intro Cd ye AZ a4 rN
          refine WL.insert (a := 5) (b := 3) ty77.u ty3.u z z z rN z ?_
          intro A0 a5 d3
          replace d3 : MBlk _ _ _ _ [(5, 3)] := d3
          refine WL.insert (a := 7) (b := 2) ty77.u ty3.u z z z d3 z ?_
          intro A1 a6 d4
          replace d4 : MBlk _ _ _ _ [(5, 3), (7, 2)] := d4
          refine WL.insert (a := 10) (b := 4) ty77.u ty3.u z z z d4 z ?_
          intro A2 a7 d5
          replace d5 : MBlk _ _ _ _ [(5, 3), (7, 2), (10, 4)] := d5
          refine WL.insert (a := 30) (b := 5) ty77.u ty3.u z z z d5 z ?_
          intro A3 a8 d6
          replace d6 : MBlk _ _ _ _ [(5, 3), (7, 2), (10, 4), (30, 5)] := d6
          refine wY (ym z) z (wY (ym z) z ?_)
          obtain ⟨d7, rO, h⟩ := bnd h
          have cK := (((((dZ.st aS z z z).st a4 z z z).st a5 z z z).st a6 z z z).st a7 z z z).st a8 z z z
          obtain ⟨Ce, zW, A4, gH, rV, rW, d8, iS⟩ := OwnSl.at cK rO
          obtain ⟨_, _, rfl, rfl, ⟨_, _, rfl, rfl, ⟨_, _, rfl, rfl, ⟨yg, rfl, A5⟩⟩⟩⟩ := iS
          replace d8 : CellsAt _ _ _ [vi d7.Num, vi d7.Type_, vu d7.V, yg] := d8
          have iT := CAt.own cK gH d8
          refine wY (Y.indexAddr ty66 ty68 z gH z rV rW) z (wY (yf fo68_0 z) z (wY (yl ty3 z z (iT.at_.sub 0 [vi d7.Num] z)) z (wY (Y.lookup1 (es := [(5, 3), (7, 2), (10, 4), (30, 5)]) (A := fun _ => True) ty77.u ty3.u ty3 z z ⟨_, z, trivial, d6.blk⟩) z ?_)))
          obtain ⟨o, fL, h⟩ := lt1 h
          refine WL.yE (ya z) (congrArg vi fL.symm) z (nl (th (sq (rg (wY (ym z) z (wY (ym z) z ?_))))))
          obtain ⟨fN, rX, h⟩ := bnd h
          obtain ⟨Cf, zX, A6, gI, rY, rZ, d9, iU⟩ := OwnSl.at cK rX
          obtain ⟨_, _, rfl, rfl, ⟨_, _, rfl, rfl, ⟨_, _, rfl, rfl, ⟨fO, rfl, r2⟩⟩⟩⟩ := iU
          replace d9 : CellsAt _ _ _ [vi fN.Num, vi fN.Type_, vu fN.V, fO] := d9
          have iV := CAt.own cK gI d9
          refine wY (Y.indexAddr ty66 ty68 z gI z rY rZ) z (wY (yf fo68_3 z) z (wY (yl ty45 z z (iV.at_.sub 3 [fO] z)) z (WL.makeMap (O := ye) 20 z ?_)))
          intro yh iW A7 a9 r3
          refine WL.insert (a := 1) (b := 2) ty77.u ty3.u z z z r3 z ?_
          intro A8 ba ea
          replace ea : MBlk _ _ _ _ [(1, 2)] := ea
          refine WL.insert (a := 2) (b := 0) ty77.u ty3.u z z z ea z ?_
          intro A9 bb eb
          replace eb : MBlk _ _ _ _ [(1, 2), (2, 0)] := eb
          refine WL.insert (a := 3) (b := 0) ty77.u ty3.u z z z eb z ?_
          intro Ba bc cL
          replace cL : MBlk _ _ _ _ [(1, 2), (2, 0), (3, 0)] := cL
          refine wY (ym z) z ?_
          have cM := ((((((((d1.st a4 z).st a5 z).st a6 z).st a7 z).st a8 z).st a9 z).st ba z).st bb z).st bc z
          have sf := (((r2.frb_st a9 z z).frb_st ba z z).frb_st bb z z).frb_st bc z z
          obtain ⟨⟨yi, iX⟩, si, h⟩ := bnd h
          refine WL.call (vals := [pt c 0, fO, Value.map (some yh)]) kok32 z z (c_otlp_reader_open (A := out [11] iW) (a0 := (otlp_reader.mk fK.e ch)) cM.blk (Sl.notin (L := [11]) (Sl.frbI sf) z z) ⟨_, z, (out_lab cL.lab z), cL.blk⟩ (fun k hk => out_ne cM.lab z k hk) si) ?_
          rintro bR gJ ⟨_, rfl, sj, yj, yk⟩
          obtain ⟨fP, hR, hS, bH⟩ := adopt iW (fun k => 1) [11] sj (memB cM.lab rfl)
          have gK : Sl rep_api_Fld gJ (frs fP) bR yi := Sl.adoptF yj (fun k hk => ⟨hk, z⟩) hS
          have sm : Blk 11 fP gJ c 74 [vi iX.e, ci] := Blk.adopt cM hR yk
          refine wY (ya z) z (nl (th (sq (rg (wY (ym z) z ?_)))))
          obtain ⟨b0, sr, h⟩ := bnd h
          refine WL.call (vals := [bR, vi 2]) kok70 z z (c_otlp_last (A := fun _ => True) (Sl.all gK) sr) ?_
          rintro Bb ss ⟨yo, rfl, sv, yp⟩
          obtain ⟨iY, zu, hT, bd⟩ := adoptE fP (fun k => 1) sv
          have Bc : Sl Rep.b ss (frs iY) yo b0.B := Sl.adoptF yp (fun k hk => ⟨hk, z⟩) hT
          refine wY (Y.fieldSc ty68.u z z z ty26 z z z) z (wY (ym z) z ?_)
          have gL := gK.f bd z
          obtain ⟨d, sw, h⟩ := bnd h
          refine WL.call (vals := [bR, vi 3]) kok70 z z (c_otlp_last (A := fun _ => True) (Sl.all gL) sw) ?_
          rintro Bd gM ⟨yq, rfl, sA, yr⟩
          obtain ⟨iZ, zv, hU, bf⟩ := adoptE iY (fun k => 1) sA
          have Be : Sl Rep.b gM (frs iZ) yq d.B := Sl.adoptF yr (fun k hk => ⟨hk, z⟩) hU
          refine wY (Y.fieldSc ty68.u z z z ty26 z z z) z (wY (ya z) z (wY (ya z) z (nl (th (sq (rg (wY (ym z) z (wY (ym z) z (wY (Y.gtr_u (b := 2) z z) z ?_)))))))))
          refine wY (ym z) z ?_
          refine WL.cut 3 (σ := Unit) (fun _ w' => gM = w') (fun _ => [(0, pt c 0), (2, aP), (6, bG), (10, vi o), (11, bR), (12, vu b0.V), (13, vu d.V), (65, pt c 0), (71, vB ((decide (2 < b0.V)) || (decide (1 < d.V))))]) ?_ ?_
          ·refine WL.part 68 z (fun ec => ?_) (fun ec => ?_)
           ·refine WL.gS z z z z (WL.gS z z z z (wY (Y.pick (b := true) z z) z (WL.ren (v' := vB ((decide (2 < b0.V)) || (decide (1 < d.V)))) 71 z (congrArg vB (orT ec)) ?_)))
            exact nl (At.join () z (.cons z (.cons z (.cons z (.cons z (.cons z (.cons z (.cons z (.cons z (.cons z .nil))))))))))
           ·refine ug z z (wY (ym z) z (ug z z (wY (Y.gtr_u (b := 1) z z) z (wY (Y.pick (b := false) z z) z (WL.ren (v' := vB ((decide (2 < b0.V)) || (decide (1 < d.V)))) 71 z (congrArg vB (orF ec)) ?_)))))
            exact nl (At.join () z (.cons z (.cons z (.cons z (.cons z (.cons z (.cons z (.cons z (.cons z (.cons z .nil))))))))))
          ·rintro _ _ rfl
           refine (show WL _ _ _ _ _ [(0, pt c 0), (2, aP), (6, bG), (10, vi o), (11, bR), (12, vu b0.V), (13, vu d.V), (65, pt c 0), (71, vB ((decide (2 < b0.V)) || (decide (1 < d.V))))] _ from ?_)
           have ed := (sm.st bd z).st bf z
           obtain ⟨i0, sD, h⟩ := bnd h
           refine WL.call (vals := [pt c 0, vB ((decide (2 < b0.V)) || (decide (1 < d.V))), vi 3]) kok69 z z (c_otlp_reader_fail (a0 := (otlp_reader.mk iX.e ch)) ed.blk sD) ?_
           rintro Bf sE ⟨rfl, sG, ys⟩
           obtain ⟨i1, hV, zw, bw⟩ := adopt iZ (fun k => 1) [11] sG (memB ed.lab rfl)
           have sH : Blk 11 i1 sE c 74 [vi i0.e, ci] := Blk.adopt ed hV ys
           refine nl (th (sq (rg (wY (ym z) z ?_))))
           have sY := (((((((((((((((gu.f Z z).f aJ z).f aS z).f a4 z).f a5 z).f a6 z).f a7 z).f a8 z).f a9 z).f ba z).f bb z).f bc z).f bH z).f bd z).f bf z).f bw z
           obtain ⟨j, sZ, h⟩ := bnd h
           refine WL.call (vals := [bG, vi 1]) kok70 z z (c_otlp_last (A := fun _ => True) (Sl.all sY) sZ) ?_
           rintro Bg s0 ⟨yt, rfl, s1, yu⟩
           obtain ⟨i2, zx, hW, bx⟩ := adoptE i1 (fun k => 1) s1
           have s2 : Sl Rep.b s0 (frs i2) yt j.B := Sl.adoptF yu (fun k hk => ⟨hk, z⟩) hW
           refine wY (Y.fieldSc ty68.u z z z ty45 z z z) z (wY (Y.b2s ty45 ty5 ty9 z s2) z (wY (ym z) z (wY (ym z) z (wY (ym z) z (wY (Y.eql_u (b := 1) z z) z ?_)))))
           have ee := (((((((((((((((((((((((((dN.f aQ z).f aR z).f aD z).f aE z).f aF z).f aG z).f aH z).f aI z).f aY z).f Z z).f aJ z).f aS z).f a4 z).f a5 z).f a6 z).f a7 z).f a8 z).f a9 z).f ba z).f bb z).f bc z).f bH z).f bd z).f bf z).f bw z).f bx z
           have tw := h
           obtain ⟨bz, bA, bB, rfl⟩ := ee.shape
           have h := tw
           refine wY (yb (vals := [(0, vs j.B), (1, (vl bz bA bB)), (2, vi o), (4, vB (decide (d.V = 1)))]) (cells := [vs j.B, (vl bz bA bB), vi o, vi 0, vB (decide (d.V = 1)), vi 0, vi 0, vi 0, vu 0, vu 0, vi 0, vu 0, vi 0, sn, vi 0, sn, vi 0]) (fe_ z) (by kernel_rfl)) z (WL.alloc (O := i2) 21 [vs [], sn, vi 0, vi 0, vB false, vi 0, vi 0, vi 0, vu 0, vu 0, vi 0, vu 0, vi 0, sn, vi 0, sn, vi 0] ty33 z z ?_)
           intro c5 fQ Bh bg tx
           refine WL.store (v := ag [vs j.B, (vl bz bA bB), vi o, vi 0, vB (decide (d.V = 1)), vi 0, vi 0, vi 0, vu 0, vu 0, vi 0, vu 0, vi 0, sn, vi 0, sn, vi 0]) (cells' := [vs j.B, (vl bz bA bB), vi o, vi 0, vB (decide (d.V = 1)), vi 0, vi 0, vi 0, vu 0, vu 0, vi 0, vu 0, vi 0, sn, vi 0, sn, vi 0]) ty33 z z tx z (le_ z) z z ?_
           intro ty bh gO
           refine nl (th (sq ?_))
           obtain ⟨yv, h, tA⟩ := bnd h
           refine WC.join (σ := (Int × Own)) (fun x w' => x.1 = yv ∧ Stp [21] fQ ty x.2 w' ∧ Blk 21 x.2 w' c5 33 [vs j.B, (vl bz bA bB), vi o, vi x.1, vB (decide (d.V = 1)), vi 0, vi 0, vi 0, vu 0, vu 0, vi 0, vu 0, vi 0, sn, vi 0, sn, vi 0]) (fun x => [(0, pt c 0), (11, bR), (14, pt c5 0)]) ?_ ?_
           ·refine sq (rg (wY (ym z) z (wY (Y.gtr_u (b := 0) z z) z (nl (th ?_)))))
            rcases cnd h with ⟨ef, h⟩ | ⟨ef, h⟩
            ·refine WC.condT' z ef (rg (wY (ym z) z (wY (Y.min_u (b := 2) z z) z (wY (Y.sub_u (a := 3) z z) z (wY (Y.conv_ui ty26.u ty3.u z) z (wY (yf fo33_3 z) z ?_))))))
             obtain ⟨fR, tB, h⟩ := lt1 h
             refine WL.ren 87 z (congrArg vi tB.symm) (WL.store (v := vi fR) (cells' := [vs j.B, (vl bz bA bB), vi o, vi fR, vB (decide (d.V = 1)), vi 0, vi 0, vi 0, vu 0, vu 0, vi 0, vu 0, vi 0, sn, vi 0, sn, vi 0]) ty3 z z gO z (le_ z) z z ?_)
             intro Bi i3 tC
             refine nl ?_
             exact At.join (σ := (Int × Own)) (fR, fQ) ⟨some1 h, (su_ i3 z), tC⟩ (.cons z (.cons z (.cons z .nil)))
            ·refine WC.condF' z ef (sk ?_)
             exact At.join (σ := (Int × Own)) (0, fQ) ⟨some1 h, (sr_ _ _ _), gO⟩ (.cons z (.cons z (.cons z .nil)))
           ·rintro ⟨p, yw⟩ Bj ⟨rfl, aZ, gQ⟩
            replace h := tA
            try dsimp only at h aZ gQ
            refine (show At _ _ _ [(0, pt c 0), (11, bR), (14, pt c5 0)] _ from ?_)
            refine th (sq (rg (wY (ym z) z ?_)))
            have tI := (((((gL.f bf z).f bw z).f bx z).f bg z).f bh z).f aZ z
            obtain ⟨eg, tJ, h⟩ := bnd h
            refine WL.call (vals := [bR, vi 1]) kok31 z z (c_wire_All (A := fun _ => True) (Sl.all tI) tJ) ?_
            rintro eh ei ⟨_, rfl, tK, yy⟩
            obtain ⟨fT, zy, hX, bi⟩ := adoptE yw (fun k => 1) tK
            have gR : Sl rep_api_Fld ei (frs fT) eh eg := Sl.adoptF yy (fun k hk => ⟨hk, z⟩) hX
            refine wY (Y.len ty66 z gR) z (wY (ym z) z (nl (th (WC.block ?_))))
            obtain ⟨i4, h, tL⟩ := flow1 h
            obtain ⟨i5, h⟩ := loop_some h
            refine WC.joinB 2 (σ := (Int × List api_Point × Own × Value)) (fun x w' => i4 = .go (x.1, x.2.1) ∧ Stp [11, 22, 23, 24, 25, 28, 30, 31, 1006, 1007, 1010, 1020, 1021] fT ei x.2.2.1 w' ∧ OwnSl 1008 (frR rep_api_Point w.heap.size) 33 x.2.2.1 w' x.2.2.2 x.2.1 ∧ Blk 11 x.2.2.1 w' c 74 [vi x.1, x.2.2.2]) (fun x => []) ?_ ?_
            ·have uf := (((((((((((((((((((((((((((((cH.st aQ z z z).st aR z z z).st aD z z z).st aE z z z).st aF z z z).st aG z z z).st aH z z z).st aI z z z).st aY z z z).st Z z z z).st aJ z z z).st aS z z z).st a4 z z z).st a5 z z z).st a6 z z z).st a7 z z z).st a8 z z z).st a9 z z z).st ba z z z).st bb z z z).st bc z z z).st bH z z z).st bd z z z).st bf z z z).st bw z z z).st bx z z z).st bg z z z).st bh z z z).st aZ z z z).st bi z z z
             obtain ⟨yz, e0, uh⟩ := OwnSl.rlb 1007 rfl uf
             have un := (((((sH.st bx z).st bg z).st bh z).st aZ z).st bi z).st e0 z
             refine WC.loop (σ := (Int × List api_Point × Int × Own × Value)) (fun x k w' => loopN k (otlp_Decode_lp4 bQ o d j p eg) (x.1, x.2.1, x.2.2.1) = some i4 ∧ Stp [11, 22, 23, 24, 25, 28, 30, 31, 1006, 1007, 1010, 1020, 1021] fT ei x.2.2.2.1 w' ∧ OwnSl 1007 (frR rep_api_Point w.heap.size) 33 x.2.2.2.1 w' x.2.2.2.2 x.2.1 ∧ Blk 11 x.2.2.2.1 w' c 74 [vi x.1, x.2.2.2.2]) (fun x => [(0, pt c 0), (14, pt c5 0), (90, eh), (91, vi (eg.length : Int)), (92, vi x.2.2.1)]) (i0.e, ch, 0, yz, ci) i5 (.cons z (.cons z (.cons z (.cons z (.cons z .nil))))) ⟨h, (su_ e0 z), uh, un⟩ ?_
             rintro ⟨i6, bP, i7, yA, bI⟩ i5 Bk ⟨h, bj, ck, ej⟩
             obtain ⟨yB, Cg, rfl, h, gU⟩ := rnd1 h
             unfold otlp_Decode_lp4 at h
             try dsimp only at h bj ck ej
             refine (show WC _ _ _ _ [(0, pt c 0), (14, pt c5 0), (90, eh), (91, vi (eg.length : Int)), (92, vi i7)] _ from ?_)
             refine sq (rg (wY (Y.lss_i z z) z (nl (th (sq ?_)))))
             rcases cnd h with ⟨ek, h⟩ | ⟨ek, h⟩
             ·refine WC.condT' z ek (sk (th (sq (WC.block (sq (rg ?_))))))
              obtain ⟨bZ, uo, h⟩ := bnd h
              have uq := gR.f bj z
              obtain ⟨Ch, zY, zZ, Bl, ur, ut, uu, em, i8, uv⟩ := Sl.at2 uq uo
              obtain ⟨_, _, rfl, rfl, ⟨_, _, rfl, rfl, ⟨_, _, rfl, rfl, ⟨yC, rfl, uw⟩⟩⟩⟩ := i8
              replace em : CellsAt _ _ _ [vi bZ.Num, vi bZ.Type_, vu bZ.V, yC] := em
              have i9 := CAt.frs em uv
              refine wY (Y.indexAddr ty66 ty68 z ur z ut uu) z (wY (yL ty68 z z i9.at_ z) z (WL.alloc (O := yA) 22 [vi 0, vi 0, vu 0, sn] ty68 z z ?_))
              intro Ci ja Bm aT ux
              have gV := uw.f aT z
              have uy := h
              obtain ⟨c6, c7, c8, rfl⟩ := gV.shape
              have h := uy
              refine WL.store (v := ag [vi bZ.Num, vi bZ.Type_, vu bZ.V, (vl c6 c7 c8)]) (cells' := [vi bZ.Num, vi bZ.Type_, vu bZ.V, (vl c6 c7 c8)]) ty68 z z ux z (le_ z) z z ?_
              intro uz aU uA
              refine nl (th (rg (wY (ym z) z (wY (yf fo68_3 z) z (wY (yl ty45 z z (uA.cell 3 _ z)) z ?_)))))
              have uE := (((gQ.st bi z).st bj z).st aT z).st aU z
              refine wY (yL ty33 z z (uE.cells 0 [vs j.B, (vl bz bA bB), vi o, vi p, vB (decide (d.V = 1)), vi 0, vi 0, vi 0, vu 0, vu 0, vi 0, vu 0, vi 0, sn, vi 0, sn, vi 0] z) z) z ?_
              obtain ⟨yD, h, uF⟩ := bnd h
              refine WL.callJ (vals := [pt c 0, (vl c6 c7 c8), ag [vs j.B, (vl bz bA bB), vi o, vi p, vB (decide (d.V = 1)), vi 0, vi 0, vi 0, vu 0, vu 0, vi 0, vu 0, vi 0, sn, vi 0, sn, vi 0]]) (σ := (Int × List api_Point × Own × Value)) (fun x w' => (x.1, x.2.1) = yD ∧ Stp [11, 23, 24, 25, 28, 30, 31, 1007, 1020, 1021] ja uz x.2.2.1 w' ∧ OwnSl 1006 (frR rep_api_Point w.heap.size) 33 x.2.2.1 w' x.2.2.2 x.2.1 ∧ Blk 11 x.2.2.1 w' c 74 [vi x.1, x.2.2.2]) (fun x => tp []) kok71 z z ?_ ?_
              ·refine Rets.enter Try.func71 z z ?_
               refine (show WC _ _ _ _ [(0, pt c 0), (1, (vl c6 c7 c8)), (2, ag [vs j.B, (vl bz bA bB), vi o, vi p, vB (decide (d.V = 1)), vi 0, vi 0, vi 0, vu 0, vu 0, vi 0, vu 0, vi 0, sn, vi 0, sn, vi 0])] _ from ?_)
               refine sq (rg (WL.box (O := ja) 23 [vs j.B, (vl bz bA bB), vi o, vi p, vB (decide (d.V = 1)), vi 0, vi 0, vi 0, vu 0, vu 0, vi 0, vu 0, vi 0, sn, vi 0, sn, vi 0] z z z ?_))
               intro bS yF Bn aK uG
               refine nl (th (sq (rg (wY (ym z) z (wY (ym z) z (WL.makeMap (O := yF) 24 z ?_))))))
               intro yG jb Bo aa uH
               refine WL.insert (a := 2) (b := 1) ty77.u ty3.u z z z uH z ?_
               intro Bp ab en
               replace en : MBlk _ _ _ _ [(2, 1)] := en
               refine WL.insert (a := 3) (b := 1) ty77.u ty3.u z z z en z ?_
               intro Bq ac eo
               replace eo : MBlk _ _ _ _ [(2, 1), (3, 1)] := eo
               refine WL.insert (a := 4) (b := 1) ty77.u ty3.u z z z eo z ?_
               intro Br ad ep
               replace ep : MBlk _ _ _ _ [(2, 1), (3, 1), (4, 1)] := ep
               refine WL.insert (a := 6) (b := 1) ty77.u ty3.u z z z ep z ?_
               intro Bs ae er
               replace er : MBlk _ _ _ _ [(2, 1), (3, 1), (4, 1), (6, 1)] := er
               refine WL.insert (a := 7) (b := 2) ty77.u ty3.u z z z er z ?_
               intro Bt af et
               replace et : MBlk _ _ _ _ [(2, 1), (3, 1), (4, 1), (6, 1), (7, 2)] := et
               refine WL.insert (a := 8) (b := 0) ty77.u ty3.u z z z et z ?_
               intro Bu ah eu
               replace eu : MBlk _ _ _ _ [(2, 1), (3, 1), (4, 1), (6, 1), (7, 2), (8, 0)] := eu
               refine WL.insert (a := 9) (b := 0) ty77.u ty3.u z z z eu z ?_
               intro Bv ai ew
               replace ew : MBlk _ _ _ _ [(2, 1), (3, 1), (4, 1), (6, 1), (7, 2), (8, 0), (9, 0)] := ew
               refine WL.insert (a := 10) (b := 2) ty77.u ty3.u z z z ew z ?_
               intro Bw aj ex
               replace ex : MBlk _ _ _ _ [(2, 1), (3, 1), (4, 1), (6, 1), (7, 2), (8, 0), (9, 0), (10, 2)] := ex
               refine WL.insert (a := 11) (b := 2) ty77.u ty3.u z z z ex z ?_
               intro Bx ak ey
               replace ey : MBlk _ _ _ _ [(2, 1), (3, 1), (4, 1), (6, 1), (7, 2), (8, 0), (9, 0), (10, 2), (11, 2)] := ey
               refine WL.insert (a := 31) (b := 1) ty77.u ty3.u z z z ey z ?_
               intro By al cN
               replace cN : MBlk _ _ _ _ [(2, 1), (3, 1), (4, 1), (6, 1), (7, 2), (8, 0), (9, 0), (10, 2), (11, 2), (31, 1)] := cN
               refine wY (ym z) z ?_
               have cO := (((((((((((((ej.st aT z).st aU z).st aK z).st aa z).st ab z).st ac z).st ad z).st ae z).st af z).st ah z).st ai z).st aj z).st ak z).st al z
               have u8 := ((((((((((((gV.f aU z).f aK z).f aa z).f ab z).f ac z).f ad z).f ae z).f af z).f ah z).f ai z).f aj z).f ak z).f al z
               obtain ⟨⟨yH, jc⟩, u9, h⟩ := bnd h
               refine WL.call (vals := [pt c 0, (vl c6 c7 c8), Value.map (some yG)]) kok32 z z (c_otlp_reader_open (A := out [11] jb) (a0 := (otlp_reader.mk i6 bP)) cO.blk (Sl.notin (L := [11]) (Sl.mono u8 frs_imm) z z) ⟨_, z, (out_lab cN.lab z), cN.blk⟩ (fun k hk => out_ne cO.lab z k hk) u9) ?_
               rintro aL gW ⟨_, rfl, va, yI, yJ⟩
               obtain ⟨fU, hY, hZ, aW⟩ := adopt jb (fun k => 1) [11] va (memB cO.lab rfl)
               have gX : Sl rep_api_Fld gW (frs fU) aL yH := Sl.adoptF yI (fun k hk => ⟨hk, z⟩) hZ
               have vc : Blk 11 fU gW c 74 [vi jc.e, bI] := Blk.adopt cO hY yJ
               refine wY (ya z) z (nl (th (sq (rg (wY (ym z) z (wY (ym z) z (wY (yf fo33_2 z) z ?_)))))))
               have gY := (((((((((((uG.st aa z).st ab z).st ac z).st ad z).st ae z).st af z).st ah z).st ai z).st aj z).st ak z).st al z).st aW z
               refine wY (yl ty3 z z (gY.cell 2 _ z)) z ?_
               obtain ⟨yK, vq, h⟩ := bnd h
               refine WL.call (vals := [aL, vi o]) kok92 z z (c_otlp_form (A := fun _ => True) (Sl.all gX) vq) ?_
               rintro Bz BA ⟨rfl, vt⟩
               obtain ⟨yM, zA, zB, am⟩ := adoptE fU (fun k => 1) vt
               refine wY (Y.not z) z ?_
               have ez := vc.st am z
               obtain ⟨jd, vv, h⟩ := bnd h
               refine WL.call (vals := [pt c 0, vB (!yK), vi 3]) kok69 z z (c_otlp_reader_fail (a0 := (otlp_reader.mk jc.e bP)) ez.blk vv) ?_
               rintro BB vx ⟨rfl, vy, yN⟩
               obtain ⟨je, h0, zC, aM⟩ := adopt yM (fun k => 1) [11] vy (memB ez.lab rfl)
               have vz : Blk 11 je vx c 74 [vi jd.e, bI] := Blk.adopt ez h0 yN
               refine nl (th (sq (rg (wY (ym z) z ?_))))
               have gZ := (gX.f am z).f aM z
               obtain ⟨b1, vC, h⟩ := bnd h
               refine WL.call (vals := [aL, vi 2]) kok70 z z (c_otlp_last (A := fun _ => True) (Sl.all gZ) vC) ?_
               rintro BC vD ⟨yO, rfl, vE, yP⟩
               obtain ⟨jf, zD, h1, an⟩ := adoptE je (fun k => 1) vE
               have BD : Sl Rep.b vD (frs jf) yO b1.B := Sl.adoptF yP (fun k hk => ⟨hk, z⟩) h1
               refine wY (Y.fieldSc ty68.u z z z ty26 z z z) z (wY (ym z) z ?_)
               have g0 := gZ.f an z
               obtain ⟨b2, vG, h⟩ := bnd h
               refine WL.call (vals := [aL, vi 3]) kok70 z z (c_otlp_last (A := fun _ => True) (Sl.all g0) vG) ?_
               rintro BE g1 ⟨yQ, rfl, vH, yR⟩
               obtain ⟨jg, zE, h2, ao⟩ := adoptE jf (fun k => 1) vH
               have BF : Sl Rep.b g1 (frs jg) yQ b2.B := Sl.adoptF yR (fun k hk => ⟨hk, z⟩) h2
               refine wY (Y.fieldSc ty68.u z z z ty26 z z z) z (wY (ya z) z (wY (ya z) z (nl (th (sq (rg (wY (ym z) z (wY (ym z) z (wY (Y.gtr_u (b := 9007199254740992) z z) z ?_)))))))))
               refine wY (ym z) z ?_
               refine WL.cut 3 (σ := Unit) (fun _ w' => g1 = w') (fun _ => [(0, pt c 0), (5, pt bS 0), (6, aL), (7, vu b1.V), (8, vu b2.V), (28, pt c 0), (34, vB ((decide (9007199254740992 < b1.V)) || (decide (9007199254740992 < b2.V))))]) ?_ ?_
               ·refine WL.part 31 z (fun eA => ?_) (fun eA => ?_)
                ·refine WL.gS z z z z (WL.gS z z z z (wY (Y.pick (b := true) z z) z (WL.ren (v' := vB ((decide (9007199254740992 < b1.V)) || (decide (9007199254740992 < b2.V)))) 34 z (congrArg vB (orT eA)) ?_)))
                 exact nl (At.join () z (.cons z (.cons z (.cons z (.cons z (.cons z (.cons z (.cons z .nil))))))))
                ·refine ug z z (wY (ym z) z (ug z z (wY (Y.gtr_u (b := 9007199254740992) z z) z (wY (Y.pick (b := false) z z) z (WL.ren (v' := vB ((decide (9007199254740992 < b1.V)) || (decide (9007199254740992 < b2.V)))) 34 z (congrArg vB (orF eA)) ?_)))))
                 exact nl (At.join () z (.cons z (.cons z (.cons z (.cons z (.cons z (.cons z (.cons z .nil))))))))
               ·rintro _ _ rfl
                refine (show WL _ _ _ _ _ [(0, pt c 0), (5, pt bS 0), (6, aL), (7, vu b1.V), (8, vu b2.V), (28, pt c 0), (34, vB ((decide (9007199254740992 < b1.V)) || (decide (9007199254740992 < b2.V))))] _ from ?_)
                have eB := (vz.st an z).st ao z
                obtain ⟨fV, vJ, h⟩ := bnd h
                refine WL.call (vals := [pt c 0, vB ((decide (9007199254740992 < b1.V)) || (decide (9007199254740992 < b2.V))), vi 4]) kok69 z z (c_otlp_reader_fail (a0 := (otlp_reader.mk jd.e bP)) eB.blk vJ) ?_
                rintro BG vK ⟨rfl, vL, yS⟩
                obtain ⟨fY, h3, zF, aN⟩ := adopt jg (fun k => 1) [11] vL (memB eB.lab rfl)
                have eC : Blk 11 fY vK c 74 [vi fV.e, bI] := Blk.adopt eB h3 yS
                refine nl (th (sq (sq (rg (wY (ym z) z (wY (yn z) z (wY (yf fo74_0 z) z (wY (yl ty34 z z (eC.cell 0 _ z)) z (wY (Y.neq_i z z) z ?_)))))))))
                refine nl (th ?_)
                rcases cnd h with ⟨eD, h⟩ | ⟨eD, h⟩
                ·refine WC.condT' z eD (rt (At.thenR ?_))
                 have v6 := (((((((((((((((((((ck.st aT z z z).st aU z z z).st aK z z z).st aa z z z).st ab z z z).st ac z z z).st ad z z z).st ae z z z).st af z z z).st ah z z z).st ai z z z).st aj z z z).st ak z z z).st al z z z).st aW z z z).st am z z z).st aM z z z).st an z z z).st ao z z z).st aN z z z
                 obtain ⟨yT, e1, v7⟩ := OwnSl.rlb 1006 rfl v6
                 have v8 := eC.st e1 z
                 exact At.res (.inl z) z .nil ⟨(fV.e, bP, yT, bI), ⟨some1 h, (tr_ (su_ aK z) (tr_ (su_ aa z) (tr_ (su_ ab z) (tr_ (su_ ac z) (tr_ (su_ ad z) (tr_ (su_ ae z) (tr_ (su_ af z) (tr_ (su_ ah z) (tr_ (su_ ai z) (tr_ (su_ aj z) (tr_ (su_ ak z) (tr_ (su_ al z) (tr_ (su_ aW z) (tr_ (su_ am z) (tr_ (su_ aM z) (tr_ (su_ an z) (tr_ (su_ ao z) (tr_ (su_ aN z) (su_ e1 z))))))))))))))))))), v7, v8⟩, z⟩
                ·refine WC.condF' z eD (sk (th (sq (rg (wY (ym z) z (wY (Y.conv_ui ty26.u ty3.u z) z (wY (ym z) z (wY (Y.conv_ui ty26.u ty3.u z) z (wY (yf fo33_5 z) z ?_)))))))))
                 obtain ⟨D, v9, h⟩ := lt1 h
                 refine WL.ren 42 z (congrArg vi v9.symm) ?_
                 have wh := ((((gY.st am z).st aM z).st an z).st ao z).st aN z
                 refine WL.store (v := vi D) (cells' := [vs j.B, (vl bz bA bB), vi o, vi p, vB (decide (d.V = 1)), vi D, vi 0, vi 0, vu 0, vu 0, vi 0, vu 0, vi 0, sn, vi 0, sn, vi 0]) ty3 z z wh z (le_ z) z z ?_
                 intro BH a1 wi
                 refine wY (yf fo33_6 z) z ?_
                 obtain ⟨E, wj, h⟩ := lt1 h
                 refine WL.ren 44 z (congrArg vi wj.symm) (WL.store (v := vi E) (cells' := [vs j.B, (vl bz bA bB), vi o, vi p, vB (decide (d.V = 1)), vi D, vi E, vi 0, vu 0, vu 0, vi 0, vu 0, vi 0, sn, vi 0, sn, vi 0]) ty3 z z wi z (le_ z) z z ?_)
                 intro BI a2 g2
                 refine nl (th (sq (WC.drawH [11, 25] [0, 1, 2, 3, 4, 5, 6, 7, 8, 9] fY 11 fmix z (by kernel_rfl) ?_)))
                 intro BJ aO
                 refine WD.y 0 z (by kernel_rfl) (fun _ _ _ => yf fo33_1 z) z (WD.y 1 z (by kernel_rfl) (fun BK Cj jh => have wk := g2.st aO z; have wl := wk.st jh z; yl ty25 z z (wl.cell 1 _ z)) z (WD.y 2 z (by kernel_rfl) (fun _ _ _ => ym z) z (WD.y 3 z (by kernel_rfl) (fun _ _ _ => ym z) z (WD.heavy 4 z (by kernel_rfl) ?_))))
                 have c9 := ((((g0.f ao z).f aN z).f a1 z).f a2 z).f aO z
                 obtain ⟨wm, jm, h⟩ := bnd h
                 refine WL.call (vals := [aL, vi 7]) kok31 z z (c_wire_All (A := fun _ => True) (Sl.all c9) jm) ?_
                 rintro e2 jn ⟨_, rfl, jo, wn⟩
                 obtain ⟨eE, yU, f0, F⟩ := adoptE fY (fun k => 1) jo
                 have jp : Sl rep_api_Fld jn (frs eE) e2 wm := Sl.adoptF wn (fun k hk => ⟨hk, z⟩) f0
                 refine nl (At.dq (su_ F z) (WD.heavy 5 z (by kernel_rfl) ?_))
                 have cl := (((eC.st a1 z).st a2 z).st aO z).st F z
                 obtain ⟨⟨g3, eF⟩, jt, h⟩ := bnd h
                 refine WL.call (vals := [pt c 0, e2]) kok33 z z (c_otlp_reader_attrs (A := out [11] eE) (a0 := (otlp_reader.mk fV.e bP)) cl.blk (Sl.notin (L := [11]) (Sl.mono jp frs_imm) z z) (fun k hk => out_ne cl.lab z k hk) jt) ?_
                 rintro e5 cm ⟨_, rfl, ju, wo, wp⟩
                 obtain ⟨g4, f1, f2, H⟩ := adopt eE (fun k => if ob e5 = some k then 25 else 1) [11] ju (memB cl.lab rfl)
                 have e6 : OwnSl 25 rep_api_Pair 65 g4 cm e5 g3 := RowF.adopt 25 flat_api_Pair wo f2 (fun k hk => if_pos hk)
                 have e7 : Blk 11 g4 cm c 74 [vi eF.e, bI] := Blk.adopt cl f1 wp
                 refine nl (At.dq (su_ H z) (WD.heavy 6 z (by kernel_rfl) ?_))
                 have jv := h
                 obtain ⟨cP, cQ, cR, rfl⟩ := e6.shape
                 have h := jv
                 obtain ⟨eG, C, jw⟩ := OwnSl.giveF rfl flat_api_Pair e6
                 have j1 := ((((((((((((((((((((((((((((((ee.f bg z).f bh z).f aZ z).f bi z).f bj z).f aT z).f aU z).f aK z).f aa z).f ab z).f ac z).f ad z).f ae z).f af z).f ah z).f ai z).f aj z).f ak z).f al z).f aW z).f am z).f aM z).f an z).f ao z).f aN z).f a1 z).f a2 z).f aO z).f F z).f H z).f C z
                 have j2 : Stp [11, 12, 13, 14, 15, 16, 17, 19, 20, 21, 22, 23, 24, 25, 28, 30, 31, 1001, 1002, 1006, 1007, 1008, 1009, 1010, 1011, 1012, 1013, 1020, 1021] (Lg.O0 A) w eG cm := (tr_ (su_ bJ z) (tr_ (su_ bC z) (tr_ (su_ bD z) (tr_ (su_ bO z) (tr_ (su_ bK z) (tr_ (su_ bL z) (tr_ (su_ bn z) (tr_ (su_ bo z) (tr_ (su_ bp z) (tr_ (su_ bq z) (tr_ (su_ br z) (tr_ (su_ bM z) (tr_ (su_ bs z) (tr_ (su_ bE z) (tr_ (su_ bt z) (tr_ (su_ bu z) (tr_ (su_ aQ z) (tr_ (su_ aR z) (tr_ (su_ aD z) (tr_ (su_ aE z) (tr_ (su_ aF z) (tr_ (su_ aG z) (tr_ (su_ aH z) (tr_ (su_ aI z) (tr_ (su_ aY z) (tr_ (su_ Z z) (tr_ (su_ aJ z) (tr_ (su_ aS z) (tr_ (su_ a4 z) (tr_ (su_ a5 z) (tr_ (su_ a6 z) (tr_ (su_ a7 z) (tr_ (su_ a8 z) (tr_ (su_ a9 z) (tr_ (su_ ba z) (tr_ (su_ bb z) (tr_ (su_ bc z) (tr_ (su_ bH z) (tr_ (su_ bd z) (tr_ (su_ bf z) (tr_ (su_ bw z) (tr_ (su_ bx z) (tr_ (su_ bg z) (tr_ (su_ bh z) (tr_ (su_ aZ z) (tr_ (su_ bi z) (tr_ (su_ bj z) (tr_ (su_ aT z) (tr_ (su_ aU z) (tr_ (su_ aK z) (tr_ (su_ aa z) (tr_ (su_ ab z) (tr_ (su_ ac z) (tr_ (su_ ad z) (tr_ (su_ ae z) (tr_ (su_ af z) (tr_ (su_ ah z) (tr_ (su_ ai z) (tr_ (su_ aj z) (tr_ (su_ ak z) (tr_ (su_ al z) (tr_ (su_ aW z) (tr_ (su_ am z) (tr_ (su_ aM z) (tr_ (su_ an z) (tr_ (su_ ao z) (tr_ (su_ aN z) (tr_ (su_ a1 z) (tr_ (su_ a2 z) (tr_ (su_ aO z) (tr_ (su_ F z) (tr_ (su_ H z) (su_ C z)))))))))))))))))))))))))))))))))))))))))))))))))))))))))))))))))))))))))
                 have j3 : Stp [11, 12, 13, 14, 15, 16, 17, 19, 20, 21, 22, 23, 24, 25, 28, 30, 31, 1001, 1002, 1006, 1007, 1008, 1009, 1010, 1011, 1012, 1013, 1020, 1021] (Lg.O0 A) w eG cm := (tr_ (su_ bJ z) (tr_ (su_ bC z) (tr_ (su_ bD z) (tr_ (su_ bO z) (tr_ (su_ bK z) (tr_ (su_ bL z) (tr_ (su_ bn z) (tr_ (su_ bo z) (tr_ (su_ bp z) (tr_ (su_ bq z) (tr_ (su_ br z) (tr_ (su_ bM z) (tr_ (su_ bs z) (tr_ (su_ bE z) (tr_ (su_ bt z) (tr_ (su_ bu z) (tr_ (su_ aQ z) (tr_ (su_ aR z) (tr_ (su_ aD z) (tr_ (su_ aE z) (tr_ (su_ aF z) (tr_ (su_ aG z) (tr_ (su_ aH z) (tr_ (su_ aI z) (tr_ (su_ aY z) (tr_ (su_ Z z) (tr_ (su_ aJ z) (tr_ (su_ aS z) (tr_ (su_ a4 z) (tr_ (su_ a5 z) (tr_ (su_ a6 z) (tr_ (su_ a7 z) (tr_ (su_ a8 z) (tr_ (su_ a9 z) (tr_ (su_ ba z) (tr_ (su_ bb z) (tr_ (su_ bc z) (tr_ (su_ bH z) (tr_ (su_ bd z) (tr_ (su_ bf z) (tr_ (su_ bw z) (tr_ (su_ bx z) (tr_ (su_ bg z) (tr_ (su_ bh z) (tr_ (su_ aZ z) (tr_ (su_ bi z) (tr_ (su_ bj z) (tr_ (su_ aT z) (tr_ (su_ aU z) (tr_ (su_ aK z) (tr_ (su_ aa z) (tr_ (su_ ab z) (tr_ (su_ ac z) (tr_ (su_ ad z) (tr_ (su_ ae z) (tr_ (su_ af z) (tr_ (su_ ah z) (tr_ (su_ ai z) (tr_ (su_ aj z) (tr_ (su_ ak z) (tr_ (su_ al z) (tr_ (su_ aW z) (tr_ (su_ am z) (tr_ (su_ aM z) (tr_ (su_ an z) (tr_ (su_ ao z) (tr_ (su_ aN z) (tr_ (su_ a1 z) (tr_ (su_ a2 z) (tr_ (su_ aO z) (tr_ (su_ F z) (tr_ (su_ H z) (su_ C z)))))))))))))))))))))))))))))))))))))))))))))))))))))))))))))))))))))))))
                 refine WL.buildSlice (O := eG) (R := (frR (Rep.sl rep_api_Pair) w.heap.size)) (vals := [(0, (vl bz bA bB)), (1, (vl cP cQ cR))]) 26 [(vl bz bA bB), (vl cP cQ cR)] (xs := [bQ, g3]) (by decide) ty168 ty25 (show 0 < (Rep.sl rep_api_Pair).n by decide) (show 2 * (Rep.sl rep_api_Pair).n ≤ 65536 by decide) (fe_ z) (by kernel_rfl) z ⟨[(vl bz bA bB)], [(vl cP cQ cR)], z, ⟨_, z, (Sl.frB j1 j2 low0)⟩, ⟨[(vl cP cQ cR)], [], z, ⟨_, z, (Sl.frB jw j3 low0)⟩, z⟩⟩ z ?_
                 intro wq ws z0 Q j4
                 refine nl (At.dq (tr_ (su_ C z) (su_ Q z)) (WD.heavy 7 z (by kernel_rfl) ?_))
                 obtain ⟨wt, j5, h⟩ := bnd h
                 refine WL.call (vals := [wq]) kok93 z z (c_slices_Concat_api_Pair_api_Pair (A := fun _ => True) (Sl.unfr j4.src.sl) j5) ?_
                 rintro da j6 ⟨_, rfl, j7, wu⟩
                 obtain ⟨g5, yV, f3, S⟩ := adoptE ws (fun k => if ob da = some k then 27 else 1) j7
                 have j8 : OwnSl 27 rep_api_Pair 65 g5 j6 da wt := RowF.adopt 27 flat_api_Pair wu f3 (fun k hk => if_pos hk)
                 refine nl (At.dq (su_ S z) (WD.heavy 8 z (by kernel_rfl) ?_))
                 obtain ⟨eH, j9, h⟩ := bnd h
                 refine WL.call (vals := [da]) kok87 z z (c_label_Sorted (A := fun _ => True) (j8.src.sl) j9) ?_
                 rintro e8 ka ⟨_, rfl, kb, wv⟩
                 obtain ⟨eI, yW, f4, T⟩ := adoptE g5 (fun k => if ob e8 = some k then 28 else 1) kb
                 have db : OwnSl 28 rep_api_Pair 65 eI ka e8 eH := RowF.adopt 28 flat_api_Pair wv f4 (fun k hk => if_pos hk)
                 refine nl (At.dq (su_ T z) (WD.y 9 z (by kernel_rfl) (fun _ _ _ => yf fo33_1 z) z (WD.phase [23] [0, 1, 2, 3, 4, 5, 6, 7, 8, 9, 10] (by kernel_rfl) (by kernel_rfl) (WD.heavy 10 z (by kernel_rfl) ?_))))
                 have kc := h
                 obtain ⟨I, J, K, rfl⟩ := db.shape
                 have h := kc
                 have kk := ((((((g2.st aO z).st F z).st H z).st C z).st Q z).st S z).st T z
                 refine WL.store (v := (vl I J K)) (cells' := [vs j.B, (vl I J K), vi o, vi p, vB (decide (d.V = 1)), vi D, vi E, vi 0, vu 0, vu 0, vi 0, vu 0, vi 0, sn, vi 0, sn, vi 0]) ty25 z z kk z (le_ z) z z ?_
                 intro km M e9
                 refine nl (At.dq (su_ M z) (WD.done_ (by kernel_rfl) (th (sq ?_))))
                 obtain ⟨ww, h, kn⟩ := bnd h
                 refine WC.join (σ := (Int × Int × Own)) (fun x w' => (x.1, x.2.1) = ww ∧ Stp [23] eI km x.2.2 w' ∧ Blk 23 x.2.2 w' bS 33 [vs j.B, (vl I J K), vi x.1, vi p, vB (decide (d.V = 1)), vi D, vi E, vi x.2.1, vu 0, vu 0, vi 0, vu 0, vi 0, sn, vi 0, sn, vi 0]) (fun x => [(0, pt c 0), (5, pt bS 0), (6, aL)]) ?_ ?_
                 ·refine sq (rg (wY (ym z) z (WL.buildSlice (O := eI) (R := Rep.i) (vals := [(0, vi 6)]) 29 [vi 6] (xs := [6]) (by decide) ty121 ty3 (by decide) (by decide) (fe_ z) (by kernel_rfl) z ⟨[vi 6], [], z, z, z⟩ z ?_)))
                  intro wx wz z1 bU ko
                  have fa := (((((((c9.f F z).f H z).f C z).f Q z).f S z).f T z).f M z).f bU z
                  obtain ⟨BL, kw, h⟩ := bnd h
                  refine WL.call (vals := [aL, wx]) kok94 z z (c_otlp_has (A := fun _ => True) (Sl.all fa) (ko.src.sl) kw) ?_
                  rintro z2 z3 ⟨rfl, kz⟩
                  obtain ⟨g6, yX, yY, bW⟩ := adoptE wz (fun k => 1) kz
                  refine nl (th ?_)
                  rcases cnd h with ⟨dc, h⟩ | ⟨dc, h⟩
                  ·refine WC.condT' z dc (rg (wY (ym z) z ?_))
                   have kA := fa.f bW z
                   obtain ⟨wA, kB, h⟩ := bnd h
                   refine WL.call (vals := [aL, vi 6]) kok70 z z (c_otlp_last (A := fun _ => True) (Sl.all kA) kB) ?_
                   rintro z4 kC ⟨wB, rfl, kD, wC⟩
                   obtain ⟨g7, yZ, f5, dr⟩ := adoptE g6 (fun k => 1) kD
                   have z5 : Sl Rep.b kC (frs g7) wB wA.B := Sl.adoptF wC (fun k hk => ⟨hk, z⟩) f5
                   refine wY (Y.fieldSc ty68.u z z z ty26 z z z) z (wY (Y.conv_ui ty26.u ty3.u z) z (wY (yf fo33_2 z) z ?_))
                   have kG := ((e9.st bU z).st bW z).st dr z
                   refine WL.store (v := vi 1) (cells' := [vs j.B, (vl I J K), vi 1, vi p, vB (decide (d.V = 1)), vi D, vi E, vi 0, vu 0, vu 0, vi 0, vu 0, vi 0, sn, vi 0, sn, vi 0]) ty3 z z kG z (le_ z) z z ?_
                   intro z6 h4 kH
                   refine wY (yf fo33_7 z) z ?_
                   obtain ⟨eJ, kI, h⟩ := lt1 h
                   refine WL.ren 63 z (congrArg vi kI.symm) (WL.store (v := vi eJ) (cells' := [vs j.B, (vl I J K), vi 1, vi p, vB (decide (d.V = 1)), vi D, vi E, vi eJ, vu 0, vu 0, vi 0, vu 0, vi 0, sn, vi 0, sn, vi 0]) ty3 z z kH z (le_ z) z z ?_)
                   intro z7 h5 kJ
                   refine nl ?_
                   exact At.join (σ := (Int × Int × Own)) (1, eJ, g7) ⟨some1 h, (tr_ (su_ bU z) (tr_ (su_ bW z) (tr_ (su_ dr z) (tr_ (su_ h4 z) (su_ h5 z))))), kJ⟩ (.cons z (.cons z (.cons z .nil)))
                  ·refine WC.condF' z dc (sk ?_)
                   have kL := (e9.st bU z).st bW z
                   exact At.join (σ := (Int × Int × Own)) (o, 0, g6) ⟨some1 h, (tr_ (su_ bU z) (su_ bW z)), kL⟩ (.cons z (.cons z (.cons z .nil)))
                 ·rintro ⟨ap, q, wD⟩ z8 ⟨rfl, U, fc⟩
                  replace h := kn
                  try dsimp only at h U fc
                  refine (show At _ _ _ [(0, pt c 0), (5, pt bS 0), (6, aL)] _ from ?_)
                  refine th (sq (rg (wY (ym z) z ?_)))
                  have fd := (((((((c9.f F z).f H z).f C z).f Q z).f S z).f T z).f M z).f U z
                  obtain ⟨l, kT, h⟩ := bnd h
                  refine WL.call (vals := [aL, vi 4]) kok70 z z (c_otlp_last (A := fun _ => True) (Sl.all fd) kT) ?_
                  rintro z9 kU ⟨wE, rfl, kV, wF⟩
                  obtain ⟨g8, y0, f6, W⟩ := adoptE wD (fun k => 1) kV
                  have Aa : Sl Rep.b kU (frs g8) wE l.B := Sl.adoptF wF (fun k hk => ⟨hk, z⟩) f6
                  refine wY (Y.fieldSc ty68.u z z z ty26 z z z) z (wY (ym z) z ?_)
                  have fe := fd.f W z
                  obtain ⟨m, kW, h⟩ := bnd h
                  refine WL.call (vals := [aL, vi 31]) kok70 z z (c_otlp_last (A := fun _ => True) (Sl.all fe) kW) ?_
                  rintro Ab kX ⟨wG, rfl, kY, wH⟩
                  obtain ⟨cS, y1, f7, X⟩ := adoptE g8 (fun k => 1) kY
                  have Ac : Sl Rep.b kX (frs cS) wG m.B := Sl.adoptF wH (fun k hk => ⟨hk, z⟩) f7
                  refine wY (Y.fieldSc ty68.u z z z ty26 z z z) z (wY (yf fo33_8 z) z ?_)
                  have k0 := (fc.st W z).st X z
                  refine WL.store (v := vu l.V) (cells' := [vs j.B, (vl I J K), vi ap, vi p, vB (decide (d.V = 1)), vi D, vi E, vi q, vu l.V, vu 0, vi 0, vu 0, vi 0, sn, vi 0, sn, vi 0]) ty26 z z k0 z (le_ z) z z ?_
                  intro Ad az k1
                  refine wY (yf fo33_9 z) z (WL.store (v := vu m.V) (cells' := [vs j.B, (vl I J K), vi ap, vi p, vB (decide (d.V = 1)), vi D, vi E, vi q, vu l.V, vu m.V, vi 0, vu 0, vi 0, sn, vi 0, sn, vi 0]) ty26 z z k1 z (le_ z) z z ?_)
                  intro k2 aA dd
                  refine nl (th (sq ?_))
                  obtain ⟨wI, h, k3⟩ := bnd h
                  refine WC.join (σ := (Int × Int × UInt64 × Int × List UInt64 × Int × List UInt64 × Own × Value × Value)) (fun x w' => (x.1, x.2.1, x.2.2.1, x.2.2.2.1, x.2.2.2.2.1, x.2.2.2.2.2.1, x.2.2.2.2.2.2.1) = wI ∧ Stp [11, 23, 30, 31] cS k2 x.2.2.2.2.2.2.2.1 w' ∧ Blk 11 x.2.2.2.2.2.2.2.1 w' c 74 [vi x.1, bI] ∧ OwnSl 1020 Rep.u 26 x.2.2.2.2.2.2.2.1 w' x.2.2.2.2.2.2.2.2.1 x.2.2.2.2.1 ∧ OwnSl 1021 Rep.u 26 x.2.2.2.2.2.2.2.1 w' x.2.2.2.2.2.2.2.2.2 x.2.2.2.2.2.2.1 ∧ Blk 23 x.2.2.2.2.2.2.2.1 w' bS 33 [vs j.B, (vl I J K), vi ap, vi p, vB (decide (d.V = 1)), vi D, vi E, vi q, vu l.V, vu m.V, vi x.2.1, vu x.2.2.1, vi x.2.2.2.1, x.2.2.2.2.2.2.2.2.1, vi x.2.2.2.2.2.1, x.2.2.2.2.2.2.2.2.2, vi 0]) (fun x => [(0, pt c 0), (5, pt bS 0)]) ?_ ?_
                  ·refine sq (rg (wY (yf fo33_2 z) z (wY (yl ty3 z z (dd.cell 2 _ z)) z (wY (Y.eql_i z z) z (nl (th ?_))))))
                   rcases cnd h with ⟨de, h⟩ | ⟨de, h⟩
                   ·refine WC.condT' z de (sq (rg (wY (ym z) z (wY (ym z) z ?_))))
                    have ff := ((fe.f X z).f az z).f aA z
                    obtain ⟨g9, k6, h⟩ := bnd h
                    refine WL.call (vals := [aL, vi 8]) kok70 z z (c_otlp_last (A := fun _ => True) (Sl.all ff) k6) ?_
                    rintro Ae k7 ⟨wJ, rfl, k8, wK⟩
                    obtain ⟨ha, y2, f8, b4⟩ := adoptE cS (fun k => 1) k8
                    have Af : Sl Rep.b k7 (frs ha) wJ g9.B := Sl.adoptF wK (fun k hk => ⟨hk, z⟩) f8
                    refine wY (Y.fieldSc ty68.u z z z ty26 z z z) z ?_
                    have df := ((((((((((e7.st C z).st Q z).st S z).st T z).st M z).st U z).st W z).st X z).st az z).st aA z).st b4 z
                    obtain ⟨⟨b5, hc⟩, ll, h⟩ := bnd h
                    refine WL.call (vals := [pt c 0, vu g9.V]) kok95 z z (c_otlp_reader_wide (a0 := (otlp_reader.mk eF.e bP)) df.blk ll) ?_
                    rintro Ag lm ⟨rfl, ln, wL⟩
                    obtain ⟨hd, f9, y3, cs⟩ := adopt ha (fun k => 1) [11] ln (memB df.lab rfl)
                    have lo : Blk 11 hd lm c 74 [vi hc.e, bI] := Blk.adopt df f9 wL
                    refine wY (ym z) z ?_
                    have fg := (ff.f b4 z).f cs z
                    obtain ⟨b6, lq, h⟩ := bnd h
                    refine WL.call (vals := [aL, vi 9]) kok70 z z (c_otlp_last (A := fun _ => True) (Sl.all fg) lq) ?_
                    rintro Ah lr ⟨wM, rfl, ls, wN⟩
                    obtain ⟨he, y4, ga, b7⟩ := adoptE hd (fun k => 1) ls
                    have Ai : Sl Rep.b lr (frs he) wM b6.B := Sl.adoptF wN (fun k hk => ⟨hk, z⟩) ga
                    refine wY (Y.fieldSc ty68.u z z z ty26 z z z) z (wY (yf fo33_10 z) z (wY (yf fo31_0 z) z ?_))
                    have lw := ((dd.st b4 z).st cs z).st b7 z
                    refine WL.store (v := vi b5) (cells' := [vs j.B, (vl I J K), vi ap, vi p, vB (decide (d.V = 1)), vi D, vi E, vi q, vu l.V, vu m.V, vi b5, vu 0, vi 0, sn, vi 0, sn, vi 0]) ty3 z z lw z (le_ z) z z ?_
                    intro Aj ct lx
                    refine wY (yf fo33_10 z) z (wY (yf fo31_1 z) z (WL.store (v := vu b6.V) (cells' := [vs j.B, (vl I J K), vi ap, vi p, vB (decide (d.V = 1)), vi D, vi E, vi q, vu l.V, vu m.V, vi b5, vu b6.V, vi 0, sn, vi 0, sn, vi 0]) ty26 z z lx z (le_ z) z z ?_))
                    intro Ak cu ly
                    refine nl (th (sq (rg (wY (ym z) z (wY (ym z) z ?_)))))
                    have fh := ((fg.f b7 z).f ct z).f cu z
                    obtain ⟨wO, lC, h⟩ := bnd h
                    refine WL.call (vals := [aL, vi 10]) kok70 z z (c_otlp_last (A := fun _ => True) (Sl.all fh) lC) ?_
                    rintro Al lD ⟨hf, rfl, lE, wP⟩
                    obtain ⟨eK, y5, gb, b8⟩ := adoptE he (fun k => 1) lE
                    have lF : Sl Rep.b lD (frs eK) hf wO.B := Sl.adoptF wP (fun k hk => ⟨hk, z⟩) gb
                    refine wY (Y.fieldSc ty68.u z z z ty45 z z z) z ?_
                    have cn := (((lo.st b7 z).st ct z).st cu z).st b8 z
                    obtain ⟨⟨b9, hg⟩, lJ, h⟩ := bnd h
                    refine WL.call (vals := [pt c 0, hf]) kok96 z z (c_otlp_reader_side (A := out [11] eK) (a0 := (otlp_reader.mk hc.e bP)) cn.blk (Sl.notin (L := [11]) (Sl.mono lF frs_imm) z z) (fun k hk => out_ne cn.lab z k hk) lJ) ?_
                    rintro Am fi ⟨hh, rfl, lK, wQ, wR⟩
                    obtain ⟨eL, gc, gd, cv⟩ := adopt eK (fun k => if ob hh = some k then 30 else 1) [11] lK (memB cn.lab rfl)
                    have fj : OwnSl 30 Rep.u 26 eL fi hh b9.Counts := RowF.adopt 30 Flat.u wQ gd (fun k hk => if_pos hk)
                    have lL : Blk 11 eL fi c 74 [vi hg.e, bI] := Blk.adopt cn gc wR
                    refine wY (yf fo33_10 z) z (wY (yf fo31_2 z) z ?_)
                    have lM := h
                    obtain ⟨cT, cU, cV, rfl⟩ := fj.shape
                    have h := lM
                    have lO := (ly.st b8 z).st cv z
                    refine WL.store (v := ag [vi b9.Offset, (vl cT cU cV)]) (cells' := [vs j.B, (vl I J K), vi ap, vi p, vB (decide (d.V = 1)), vi D, vi E, vi q, vu l.V, vu m.V, vi b5, vu b6.V, vi b9.Offset, (vl cT cU cV), vi 0, sn, vi 0]) ty29 z z lO z (le_ z) z z ?_
                    intro An ca lP
                    refine nl (th (rg (wY (ym z) z (wY (ym z) z ?_))))
                    have lS := ((fh.f b8 z).f cv z).f ca z
                    obtain ⟨wS, lT, h⟩ := bnd h
                    refine WL.call (vals := [aL, vi 11]) kok70 z z (c_otlp_last (A := fun _ => True) (Sl.all lS) lT) ?_
                    rintro Ao lU ⟨hi, rfl, lV, wT⟩
                    obtain ⟨eM, y6, ge, cb⟩ := adoptE eL (fun k => 1) lV
                    have lW : Sl Rep.b lU (frs eM) hi wS.B := Sl.adoptF wT (fun k hk => ⟨hk, z⟩) ge
                    refine wY (Y.fieldSc ty68.u z z z ty45 z z z) z ?_
                    have co := (lL.st ca z).st cb z
                    obtain ⟨⟨cq, hj⟩, lY, h⟩ := bnd h
                    refine WL.call (vals := [pt c 0, hi]) kok96 z z (c_otlp_reader_side (A := out [11] eM) (a0 := (otlp_reader.mk hg.e bP)) co.blk (Sl.notin (L := [11]) (Sl.mono lW frs_imm) z z) (fun k hk => out_ne co.lab z k hk) lY) ?_
                    rintro Ap fk ⟨hm, rfl, lZ, wU, wV⟩
                    obtain ⟨hn, gf, gg, cw⟩ := adopt eM (fun k => if ob hm = some k then 31 else 1) [11] lZ (memB co.lab rfl)
                    have fl : OwnSl 31 Rep.u 26 hn fk hm cq.Counts := RowF.adopt 31 Flat.u wU gg (fun k hk => if_pos hk)
                    have l0 : Blk 11 hn fk c 74 [vi hj.e, bI] := Blk.adopt co gf wV
                    refine wY (yf fo33_10 z) z (wY (yf fo31_3 z) z ?_)
                    have l1 := h
                    obtain ⟨eN, eO, eP, rfl⟩ := fl.shape
                    have h := l1
                    have l3 := (lP.st cb z).st cw z
                    refine WL.store (v := ag [vi cq.Offset, (vl eN eO eP)]) (cells' := [vs j.B, (vl I J K), vi ap, vi p, vB (decide (d.V = 1)), vi D, vi E, vi q, vu l.V, vu m.V, vi b5, vu b6.V, vi b9.Offset, (vl cT cU cV), vi cq.Offset, (vl eN eO eP), vi 0]) ty29 z z l3 z (le_ z) z z ?_
                    intro Aq cc l4
                    refine nl ?_
                    have l8 := (((fj.st ca z z z).st cb z z z).st cw z z z).st cc z z z
                    obtain ⟨BM, cd, l9⟩ := OwnSl.rlb 1020 rfl l8
                    have mb := (fl.st cc z z z).st cd z z z
                    obtain ⟨wW, ce, mc⟩ := OwnSl.rlb 1021 rfl mb
                    have mf := ((l0.st cc z).st cd z).st ce z
                    have mg := l9.st ce z z z
                    have mi := (l4.st cd z).st ce z
                    exact At.join (σ := (Int × Int × UInt64 × Int × List UInt64 × Int × List UInt64 × Own × Value × Value)) (hj.e, b5, b6.V, b9.Offset, b9.Counts, cq.Offset, cq.Counts, wW, (vl cT cU cV), (vl eN eO eP)) ⟨some1 h, (tr_ (su_ b4 z) (tr_ (su_ cs z) (tr_ (su_ b7 z) (tr_ (su_ ct z) (tr_ (su_ cu z) (tr_ (su_ b8 z) (tr_ (su_ cv z) (tr_ (su_ ca z) (tr_ (su_ cb z) (tr_ (su_ cw z) (tr_ (su_ cc z) (tr_ (su_ cd z) (su_ ce z))))))))))))), mf, mg, mc, mi⟩ (.cons z (.cons z .nil))
                   ·refine WC.condF' z de (sk ?_)
                    have mu := (((((((((e7.st C z).st Q z).st S z).st T z).st M z).st U z).st W z).st X z).st az z).st aA z
                    exact At.join (σ := (Int × Int × UInt64 × Int × List UInt64 × Int × List UInt64 × Own × Value × Value)) (eF.e, 0, 0, 0, [], 0, [], cS, sn, sn) ⟨some1 h, (sr_ _ _ _), mu, (OwnSl.nil 1020 Rep.u 26), (OwnSl.nil 1021 Rep.u 26), dd⟩ (.cons z (.cons z .nil))
                  ·rintro ⟨ho, P, G, r, hp, t, hq, eQ, eR, eS⟩ mv ⟨rfl, a3, cr, dg, dh, di⟩
                   replace h := k3
                   try dsimp only at h a3 cr dg dh di
                   refine (show At _ _ _ [(0, pt c 0), (5, pt bS 0)] _ from ?_)
                   refine th (sq ?_)
                   obtain ⟨wX, h, mw⟩ := bnd h
                   refine WC.join (σ := (Int × Own)) (fun x w' => x.1 = wX ∧ Stp [11] eQ mv x.2 w' ∧ Blk 11 x.2 w' c 74 [vi x.1, bI]) (fun x => [(0, pt c 0), (5, pt bS 0)]) ?_ ?_
                   ·refine sq (rg (wY (ym z) z (wY (yn z) z (wY (yf fo74_0 z) z (wY (yl ty34 z z (cr.cell 0 _ z)) z (wY (Y.eql_i z z) z (nl (th ?_))))))))
                    rcases cnd h with ⟨dj, h⟩ | ⟨dj, h⟩
                    ·refine WC.condT' z dj (sq (rg (wY (yL ty33 z z (di.cells 0 [vs j.B, (vl I J K), vi ap, vi p, vB (decide (d.V = 1)), vi D, vi E, vi q, vu l.V, vu m.V, vi P, vu G, vi r, eR, vi t, eS, vi 0] z) z) z ?_)))
                     have mD := ((((((db.st M z z z).st U z z z).st W z z z).st X z z z).st az z z z).st aA z z z).st a3 z z z
                     obtain ⟨hr, mE, h⟩ := bnd h
                     refine WL.call (vals := [ag [vs j.B, (vl I J K), vi ap, vi p, vB (decide (d.V = 1)), vi D, vi E, vi q, vu l.V, vu m.V, vi P, vu G, vi r, eR, vi t, eS, vi 0]]) kok19 z z (c_point_Check (A := fun _ => True) (a0 := (api_Point.mk j.B eH ap p (decide (d.V = 1)) D E q l.V m.V (api_Hist.mk P G (api_Side.mk r hp) (api_Side.mk t hq)) 0)) (mD.src.sl) (dg.src.sl) (dh.src.sl) mE) ?_
                     rintro Ar As ⟨rfl, mF⟩
                     obtain ⟨wZ, y7, y8, ds⟩ := adoptE eQ (fun k => 1) mF
                     refine wY (ya z) z (nl (th (rg (wY (ym z) z (wY (ym z) z (wY (Y.neq_i z z) z (wY (ym z) z ?_)))))))
                     have dk := cr.st ds z
                     obtain ⟨hs, mH, h⟩ := bnd h
                     refine WL.call (vals := [pt c 0, vB (!decide (hr = 0)), vi hr]) kok69 z z (c_otlp_reader_fail (a0 := (otlp_reader.mk ho bP)) dk.blk mH) ?_
                     rintro Au mI ⟨rfl, mJ, w0⟩
                     obtain ⟨ht, gh, y9, h6⟩ := adopt wZ (fun k => 1) [11] mJ (memB dk.lab rfl)
                     have mK : Blk 11 ht mI c 74 [vi hs.e, bI] := Blk.adopt dk gh w0
                     refine nl ?_
                     exact At.join (σ := (Int × Own)) (hs.e, ht) ⟨some1 h, (tr_ (su_ ds z) (su_ h6 z)), mK⟩ (.cons z (.cons z .nil))
                    ·refine WC.condF' z dj (sk ?_)
                     exact At.join (σ := (Int × Own)) (ho, eQ) ⟨some1 h, (sr_ _ _ _), cr⟩ (.cons z (.cons z .nil))
                   ·rintro ⟨eT, w1⟩ Av ⟨rfl, aC, b3⟩
                    replace h := mw
                    try dsimp only at h aC b3
                    refine (show At _ _ _ [(0, pt c 0), (5, pt bS 0)] _ from ?_)
                    refine th (sq (rg (wY (ym z) z (wY (yn z) z (wY (yf fo74_0 z) z (wY (yl ty34 z z (b3.cell 0 _ z)) z (wY (Y.eql_i z z) z (nl (th ?_)))))))))
                    rcases cnd h with ⟨dl, h⟩ | ⟨dl, h⟩
                    ·refine WC.condT' z dl (WC.drawH [28, 1007, 1020, 1021] [0, 1, 2, 3, 4, 5, 6, 7, 8, 9] w1 11 fmix z (by kernel_rfl) ?_)
                     intro dm aX
                     refine WD.y 0 z (by kernel_rfl) (fun _ _ _ => ym z) z (WD.y 1 z (by kernel_rfl) (fun _ _ _ => ym z) z (WD.y 2 z (by kernel_rfl) (fun _ _ _ => yn z) z (WD.y 3 z (by kernel_rfl) (fun _ _ _ => yf fo74_1 z) z (WD.y 4 z (by kernel_rfl) (fun Aw BN h7 => have mL := b3.st aX z; have mM := mL.st h7 z; yl ty22 z z (mM.cell 1 _ z)) z (WD.y 5 z (by kernel_rfl) (fun Ax BO h8 => have mN := di.st aC z; have mO := mN.st aX z; have mP := mO.st h8 z; yL ty33 z z (mP.cells 0 [vs j.B, (vl I J K), vi ap, vi p, vB (decide (d.V = 1)), vi D, vi E, vi q, vu l.V, vu m.V, vi P, vu G, vi r, eR, vi t, eS, vi 0] z) z) z (WD.heavy 6 z (by kernel_rfl) ?_))))))
                     have fm := (dg.st aC z z z).st aX z z z
                     have mR := h
                     obtain ⟨aq, ar, au, rfl⟩ := fm.shape
                     have h := mR
                     have fn := (dh.st aC z z z).st aX z z z
                     have mT := h
                     obtain ⟨av, ax, ay, rfl⟩ := fn.shape
                     have h := mT
                     have m2 := ((((((((db.st M z z z).st U z z z).st W z z z).st X z z z).st az z z z).st aA z z z).st a3 z z z).st aC z z z).st aX z z z
                     obtain ⟨BP, bk, m3⟩ := OwnSl.giveF rfl flat_api_Pair m2
                     have m4 := fm.st bk z z z
                     obtain ⟨BQ, bl, m5⟩ := OwnSl.giveF rfl Flat.u m4
                     have m7 := (fn.st bk z z z).st bl z z z
                     obtain ⟨cW, bm, m8⟩ := OwnSl.giveF rfl Flat.u m7
                     have na := (m3.f bl z).f bm z
                     have nb : Stp [11, 12, 13, 14, 15, 16, 17, 19, 20, 21, 22, 23, 24, 25, 28, 30, 31, 1001, 1002, 1006, 1007, 1008, 1009, 1010, 1011, 1012, 1013, 1020, 1021] (Lg.O0 A) w cW dm := (tr_ (su_ bJ z) (tr_ (su_ bC z) (tr_ (su_ bD z) (tr_ (su_ bO z) (tr_ (su_ bK z) (tr_ (su_ bL z) (tr_ (su_ bn z) (tr_ (su_ bo z) (tr_ (su_ bp z) (tr_ (su_ bq z) (tr_ (su_ br z) (tr_ (su_ bM z) (tr_ (su_ bs z) (tr_ (su_ bE z) (tr_ (su_ bt z) (tr_ (su_ bu z) (tr_ (su_ aQ z) (tr_ (su_ aR z) (tr_ (su_ aD z) (tr_ (su_ aE z) (tr_ (su_ aF z) (tr_ (su_ aG z) (tr_ (su_ aH z) (tr_ (su_ aI z) (tr_ (su_ aY z) (tr_ (su_ Z z) (tr_ (su_ aJ z) (tr_ (su_ aS z) (tr_ (su_ a4 z) (tr_ (su_ a5 z) (tr_ (su_ a6 z) (tr_ (su_ a7 z) (tr_ (su_ a8 z) (tr_ (su_ a9 z) (tr_ (su_ ba z) (tr_ (su_ bb z) (tr_ (su_ bc z) (tr_ (su_ bH z) (tr_ (su_ bd z) (tr_ (su_ bf z) (tr_ (su_ bw z) (tr_ (su_ bx z) (tr_ (su_ bg z) (tr_ (su_ bh z) (tr_ (su_ aZ z) (tr_ (su_ bi z) (tr_ (su_ bj z) (tr_ (su_ aT z) (tr_ (su_ aU z) (tr_ (su_ aK z) (tr_ (su_ aa z) (tr_ (su_ ab z) (tr_ (su_ ac z) (tr_ (su_ ad z) (tr_ (su_ ae z) (tr_ (su_ af z) (tr_ (su_ ah z) (tr_ (su_ ai z) (tr_ (su_ aj z) (tr_ (su_ ak z) (tr_ (su_ al z) (tr_ (su_ aW z) (tr_ (su_ am z) (tr_ (su_ aM z) (tr_ (su_ an z) (tr_ (su_ ao z) (tr_ (su_ aN z) (tr_ (su_ a1 z) (tr_ (su_ a2 z) (tr_ (su_ aO z) (tr_ (su_ F z) (tr_ (su_ H z) (tr_ (su_ C z) (tr_ (su_ Q z) (tr_ (su_ S z) (tr_ (su_ T z) (tr_ (su_ M z) (tr_ (su_ U z) (tr_ (su_ W z) (tr_ (su_ X z) (tr_ (su_ az z) (tr_ (su_ aA z) (tr_ (su_ a3 z) (tr_ (su_ aC z) (tr_ (su_ aX z) (tr_ (su_ bk z) (tr_ (su_ bl z) (su_ bm z))))))))))))))))))))))))))))))))))))))))))))))))))))))))))))))))))))))))))))))))))))))))
                     have nc := m5.f bm z
                     have nd : Stp [11, 12, 13, 14, 15, 16, 17, 19, 20, 21, 22, 23, 24, 25, 28, 30, 31, 1001, 1002, 1006, 1007, 1008, 1009, 1010, 1011, 1012, 1013, 1020, 1021] (Lg.O0 A) w cW dm := (tr_ (su_ bJ z) (tr_ (su_ bC z) (tr_ (su_ bD z) (tr_ (su_ bO z) (tr_ (su_ bK z) (tr_ (su_ bL z) (tr_ (su_ bn z) (tr_ (su_ bo z) (tr_ (su_ bp z) (tr_ (su_ bq z) (tr_ (su_ br z) (tr_ (su_ bM z) (tr_ (su_ bs z) (tr_ (su_ bE z) (tr_ (su_ bt z) (tr_ (su_ bu z) (tr_ (su_ aQ z) (tr_ (su_ aR z) (tr_ (su_ aD z) (tr_ (su_ aE z) (tr_ (su_ aF z) (tr_ (su_ aG z) (tr_ (su_ aH z) (tr_ (su_ aI z) (tr_ (su_ aY z) (tr_ (su_ Z z) (tr_ (su_ aJ z) (tr_ (su_ aS z) (tr_ (su_ a4 z) (tr_ (su_ a5 z) (tr_ (su_ a6 z) (tr_ (su_ a7 z) (tr_ (su_ a8 z) (tr_ (su_ a9 z) (tr_ (su_ ba z) (tr_ (su_ bb z) (tr_ (su_ bc z) (tr_ (su_ bH z) (tr_ (su_ bd z) (tr_ (su_ bf z) (tr_ (su_ bw z) (tr_ (su_ bx z) (tr_ (su_ bg z) (tr_ (su_ bh z) (tr_ (su_ aZ z) (tr_ (su_ bi z) (tr_ (su_ bj z) (tr_ (su_ aT z) (tr_ (su_ aU z) (tr_ (su_ aK z) (tr_ (su_ aa z) (tr_ (su_ ab z) (tr_ (su_ ac z) (tr_ (su_ ad z) (tr_ (su_ ae z) (tr_ (su_ af z) (tr_ (su_ ah z) (tr_ (su_ ai z) (tr_ (su_ aj z) (tr_ (su_ ak z) (tr_ (su_ al z) (tr_ (su_ aW z) (tr_ (su_ am z) (tr_ (su_ aM z) (tr_ (su_ an z) (tr_ (su_ ao z) (tr_ (su_ aN z) (tr_ (su_ a1 z) (tr_ (su_ a2 z) (tr_ (su_ aO z) (tr_ (su_ F z) (tr_ (su_ H z) (tr_ (su_ C z) (tr_ (su_ Q z) (tr_ (su_ S z) (tr_ (su_ T z) (tr_ (su_ M z) (tr_ (su_ U z) (tr_ (su_ W z) (tr_ (su_ X z) (tr_ (su_ az z) (tr_ (su_ aA z) (tr_ (su_ a3 z) (tr_ (su_ aC z) (tr_ (su_ aX z) (tr_ (su_ bk z) (tr_ (su_ bl z) (su_ bm z))))))))))))))))))))))))))))))))))))))))))))))))))))))))))))))))))))))))))))))))))))))))
                     have nf : Stp [11, 12, 13, 14, 15, 16, 17, 19, 20, 21, 22, 23, 24, 25, 28, 30, 31, 1001, 1002, 1006, 1007, 1008, 1009, 1010, 1011, 1012, 1013, 1020, 1021] (Lg.O0 A) w cW dm := (tr_ (su_ bJ z) (tr_ (su_ bC z) (tr_ (su_ bD z) (tr_ (su_ bO z) (tr_ (su_ bK z) (tr_ (su_ bL z) (tr_ (su_ bn z) (tr_ (su_ bo z) (tr_ (su_ bp z) (tr_ (su_ bq z) (tr_ (su_ br z) (tr_ (su_ bM z) (tr_ (su_ bs z) (tr_ (su_ bE z) (tr_ (su_ bt z) (tr_ (su_ bu z) (tr_ (su_ aQ z) (tr_ (su_ aR z) (tr_ (su_ aD z) (tr_ (su_ aE z) (tr_ (su_ aF z) (tr_ (su_ aG z) (tr_ (su_ aH z) (tr_ (su_ aI z) (tr_ (su_ aY z) (tr_ (su_ Z z) (tr_ (su_ aJ z) (tr_ (su_ aS z) (tr_ (su_ a4 z) (tr_ (su_ a5 z) (tr_ (su_ a6 z) (tr_ (su_ a7 z) (tr_ (su_ a8 z) (tr_ (su_ a9 z) (tr_ (su_ ba z) (tr_ (su_ bb z) (tr_ (su_ bc z) (tr_ (su_ bH z) (tr_ (su_ bd z) (tr_ (su_ bf z) (tr_ (su_ bw z) (tr_ (su_ bx z) (tr_ (su_ bg z) (tr_ (su_ bh z) (tr_ (su_ aZ z) (tr_ (su_ bi z) (tr_ (su_ bj z) (tr_ (su_ aT z) (tr_ (su_ aU z) (tr_ (su_ aK z) (tr_ (su_ aa z) (tr_ (su_ ab z) (tr_ (su_ ac z) (tr_ (su_ ad z) (tr_ (su_ ae z) (tr_ (su_ af z) (tr_ (su_ ah z) (tr_ (su_ ai z) (tr_ (su_ aj z) (tr_ (su_ ak z) (tr_ (su_ al z) (tr_ (su_ aW z) (tr_ (su_ am z) (tr_ (su_ aM z) (tr_ (su_ an z) (tr_ (su_ ao z) (tr_ (su_ aN z) (tr_ (su_ a1 z) (tr_ (su_ a2 z) (tr_ (su_ aO z) (tr_ (su_ F z) (tr_ (su_ H z) (tr_ (su_ C z) (tr_ (su_ Q z) (tr_ (su_ S z) (tr_ (su_ T z) (tr_ (su_ M z) (tr_ (su_ U z) (tr_ (su_ W z) (tr_ (su_ X z) (tr_ (su_ az z) (tr_ (su_ aA z) (tr_ (su_ a3 z) (tr_ (su_ aC z) (tr_ (su_ aX z) (tr_ (su_ bk z) (tr_ (su_ bl z) (su_ bm z))))))))))))))))))))))))))))))))))))))))))))))))))))))))))))))))))))))))))))))))))))))))
                     refine WL.buildSlice (O := cW) (R := (frR rep_api_Point w.heap.size)) (vals := [(0, ag [vs j.B, (vl I J K), vi ap, vi p, vB (decide (d.V = 1)), vi D, vi E, vi q, vu l.V, vu m.V, vi P, vu G, vi r, (vl aq ar au), vi t, (vl av ax ay), vi 0])]) 32 [vs j.B, (vl I J K), vi ap, vi p, vB (decide (d.V = 1)), vi D, vi E, vi q, vu l.V, vu m.V, vi P, vu G, vi r, (vl aq ar au), vi t, (vl av ax ay), vi 0] (xs := [(api_Point.mk j.B eH ap p (decide (d.V = 1)) D E q l.V m.V (api_Hist.mk P G (api_Side.mk r hp) (api_Side.mk t hq)) 0)]) (by decide) ty22 ty33 (show 0 < rep_api_Point.n by decide) (show 1 * rep_api_Point.n ≤ 65536 by decide) (fe_ z) (by kernel_rfl) z ⟨[vs j.B, (vl I J K), vi ap, vi p, vB (decide (d.V = 1)), vi D, vi E, vi q, vu l.V, vu m.V, vi P, vu G, vi r, (vl aq ar au), vi t, (vl av ax ay), vi 0], [], z, ⟨[vs j.B], [(vl I J K), vi ap, vi p, vB (decide (d.V = 1)), vi D, vi E, vi q, vu l.V, vu m.V, vi P, vu G, vi r, (vl aq ar au), vi t, (vl av ax ay), vi 0], z, z, ⟨[(vl I J K)], [vi ap, vi p, vB (decide (d.V = 1)), vi D, vi E, vi q, vu l.V, vu m.V, vi P, vu G, vi r, (vl aq ar au), vi t, (vl av ax ay), vi 0], z, ⟨_, z, (Sl.frB na nb low0)⟩, ⟨[vi ap], [vi p, vB (decide (d.V = 1)), vi D, vi E, vi q, vu l.V, vu m.V, vi P, vu G, vi r, (vl aq ar au), vi t, (vl av ax ay), vi 0], z, z, ⟨[vi p], [vB (decide (d.V = 1)), vi D, vi E, vi q, vu l.V, vu m.V, vi P, vu G, vi r, (vl aq ar au), vi t, (vl av ax ay), vi 0], z, z, ⟨[vB (decide (d.V = 1))], [vi D, vi E, vi q, vu l.V, vu m.V, vi P, vu G, vi r, (vl aq ar au), vi t, (vl av ax ay), vi 0], z, z, ⟨[vi D], [vi E, vi q, vu l.V, vu m.V, vi P, vu G, vi r, (vl aq ar au), vi t, (vl av ax ay), vi 0], z, z, ⟨[vi E], [vi q, vu l.V, vu m.V, vi P, vu G, vi r, (vl aq ar au), vi t, (vl av ax ay), vi 0], z, z, ⟨[vi q], [vu l.V, vu m.V, vi P, vu G, vi r, (vl aq ar au), vi t, (vl av ax ay), vi 0], z, z, ⟨[vu l.V], [vu m.V, vi P, vu G, vi r, (vl aq ar au), vi t, (vl av ax ay), vi 0], z, z, ⟨[vu m.V], [vi P, vu G, vi r, (vl aq ar au), vi t, (vl av ax ay), vi 0], z, z, ⟨[vi P, vu G, vi r, (vl aq ar au), vi t, (vl av ax ay)], [vi 0], z, ⟨[vi P], [vu G, vi r, (vl aq ar au), vi t, (vl av ax ay)], z, z, ⟨[vu G], [vi r, (vl aq ar au), vi t, (vl av ax ay)], z, z, ⟨[vi r, (vl aq ar au)], [vi t, (vl av ax ay)], z, ⟨[vi r], [(vl aq ar au)], z, z, ⟨_, z, (Sl.frB nc nd low0)⟩⟩, ⟨[vi t], [(vl av ax ay)], z, z, ⟨_, z, (Sl.frB m8 nf low0)⟩⟩⟩⟩⟩, z⟩⟩⟩⟩⟩⟩⟩⟩⟩⟩⟩, z⟩ z ?_
                     intro BR BS Ay cf ng
                     refine nl (At.dq (tr_ (su_ bk z) (tr_ (su_ bl z) (tr_ (su_ bm z) (su_ cf z)))) (WD.heavy 7 z (by kernel_rfl) ?_))
                     obtain ⟨nh, h9, h⟩ := bnd h
                     have n4 := (((((((((((((((((((((((((((((((((((((((((ck.st aT z z z).st aU z z z).st aK z z z).st aa z z z).st ab z z z).st ac z z z).st ad z z z).st ae z z z).st af z z z).st ah z z z).st ai z z z).st aj z z z).st ak z z z).st al z z z).st aW z z z).st am z z z).st aM z z z).st an z z z).st ao z z z).st aN z z z).st a1 z z z).st a2 z z z).st aO z z z).st F z z z).st H z z z).st C z z z).st Q z z z).st S z z z).st T z z z).st M z z z).st U z z z).st W z z z).st X z z z).st az z z z).st aA z z z).st a3 z z z).st aC z z z).st aX z z z).st bk z z z).st bl z z z).st bm z z z).st cf z z z
                     refine WL.append (by decide) ty22 ty33 z (by decide) z z n4 ng.src h9 z ?_
                     intro BT BU Az cx fo
                     refine nl (At.dq (su_ cx z) (WD.y 8 z (by kernel_rfl) (fun _ _ _ => yn z) z (WD.y 9 z (by kernel_rfl) (fun _ _ _ => yf fo74_1 z) z (WD.phase [11] [0, 1, 2, 3, 4, 5, 6, 7, 8, 9, 10] (by kernel_rfl) (by kernel_rfl) (WD.heavy 10 z (by kernel_rfl) ?_)))))
                     have n5 := h
                     obtain ⟨eU, eV, eW, rfl⟩ := fo.shape
                     have h := n5
                     have od := (((((b3.st aX z).st bk z).st bl z).st bm z).st cf z).st cx z
                     refine WL.store (v := (vl eU eV eW)) (cells' := [vi eT, (vl eU eV eW)]) ty22 z z od z (le_ z) z z ?_
                     intro AA cy oe
                     refine nl (At.dq (su_ cy z) (WD.done_ (by kernel_rfl) ?_))
                     have og := fo.st cy z z z
                     obtain ⟨w2, dt, oh⟩ := OwnSl.rlb 1006 rfl og
                     have oi := oe.st dt z
                     exact At.res (.inr z) z .nil ⟨(eT, nh, w2, (vl eU eV eW)), ⟨some1 h, (tr_ (su_ aK z) (tr_ (su_ aa z) (tr_ (su_ ab z) (tr_ (su_ ac z) (tr_ (su_ ad z) (tr_ (su_ ae z) (tr_ (su_ af z) (tr_ (su_ ah z) (tr_ (su_ ai z) (tr_ (su_ aj z) (tr_ (su_ ak z) (tr_ (su_ al z) (tr_ (su_ aW z) (tr_ (su_ am z) (tr_ (su_ aM z) (tr_ (su_ an z) (tr_ (su_ ao z) (tr_ (su_ aN z) (tr_ (su_ a1 z) (tr_ (su_ a2 z) (tr_ (su_ aO z) (tr_ (su_ F z) (tr_ (su_ H z) (tr_ (su_ C z) (tr_ (su_ Q z) (tr_ (su_ S z) (tr_ (su_ T z) (tr_ (su_ M z) (tr_ (su_ U z) (tr_ (su_ W z) (tr_ (su_ X z) (tr_ (su_ az z) (tr_ (su_ aA z) (tr_ (su_ a3 z) (tr_ (su_ aC z) (tr_ (su_ aX z) (tr_ (su_ bk z) (tr_ (su_ bl z) (tr_ (su_ bm z) (tr_ (su_ cf z) (tr_ (su_ cx z) (tr_ (su_ cy z) (su_ dt z))))))))))))))))))))))))))))))))))))))))))), oh, oi⟩, z⟩
                    ·refine WC.condF' z dl (sk ?_)
                     have oW := ((((((((((((((((((((((((((((((((((((ck.st aT z z z).st aU z z z).st aK z z z).st aa z z z).st ab z z z).st ac z z z).st ad z z z).st ae z z z).st af z z z).st ah z z z).st ai z z z).st aj z z z).st ak z z z).st al z z z).st aW z z z).st am z z z).st aM z z z).st an z z z).st ao z z z).st aN z z z).st a1 z z z).st a2 z z z).st aO z z z).st F z z z).st H z z z).st C z z z).st Q z z z).st S z z z).st T z z z).st M z z z).st U z z z).st W z z z).st X z z z).st az z z z).st aA z z z).st a3 z z z).st aC z z z
                     obtain ⟨w3, du, oX⟩ := OwnSl.rlb 1006 rfl oW
                     have oY := b3.st du z
                     exact At.res (.inr z) z .nil ⟨(eT, bP, w3, bI), ⟨some1 h, (tr_ (su_ aK z) (tr_ (su_ aa z) (tr_ (su_ ab z) (tr_ (su_ ac z) (tr_ (su_ ad z) (tr_ (su_ ae z) (tr_ (su_ af z) (tr_ (su_ ah z) (tr_ (su_ ai z) (tr_ (su_ aj z) (tr_ (su_ ak z) (tr_ (su_ al z) (tr_ (su_ aW z) (tr_ (su_ am z) (tr_ (su_ aM z) (tr_ (su_ an z) (tr_ (su_ ao z) (tr_ (su_ aN z) (tr_ (su_ a1 z) (tr_ (su_ a2 z) (tr_ (su_ aO z) (tr_ (su_ F z) (tr_ (su_ H z) (tr_ (su_ C z) (tr_ (su_ Q z) (tr_ (su_ S z) (tr_ (su_ T z) (tr_ (su_ M z) (tr_ (su_ U z) (tr_ (su_ W z) (tr_ (su_ X z) (tr_ (su_ az z) (tr_ (su_ aA z) (tr_ (su_ a3 z) (tr_ (su_ aC z) (su_ du z)))))))))))))))))))))))))))))))))))), oX, oY⟩, z⟩
              ·rintro ⟨za, zb, Ck, zc⟩ BV ⟨rfl, fp, hu, hv⟩
               replace h := uF
               try dsimp only at h fp hu hv
               refine (show WL _ _ _ _ _ ((100, tp []) :: _) _ from ?_)
               refine nl (At.inBlock (th (rg (wY (Y.add_i z z) z (wY (ym z) z (nl ?_))))))
               obtain ⟨w4, dw, oZ⟩ := OwnSl.rlb 1007 rfl hu
               have o0 := hv.st dw z
               exact At.round (za, zb, w64 (i7 + 1), w4, zc) yB (Nat.lt_succ_self _) ⟨next1 h gU, (tr_ (su_ bj z) (tr_ (su_ aT z) (tr_ (su_ aU z) (tr_ (su_ fp z) (su_ dw z))))), oZ, o0⟩ (.cons z (.cons z (.cons z (.cons z (.cons z .nil)))))
             ·refine WC.condF' z ek (WC.exit (At.thenX (At.loopX ?_)))
              obtain ⟨w5, dx, o1⟩ := OwnSl.rlb 1008 rfl ck
              have o2 := ej.st dx z
              exact At.hitB (σ := (Int × List api_Point × Own × Value)) (i6, bP, w5, bI) ⟨brk1 h gU, (tr_ (su_ bj z) (su_ dx z)), o1, o2⟩ .nil
            ·rintro ⟨zd, ze, Cl, zf⟩ BW ⟨rfl, dn, hw, hx⟩
             replace h := flowK_go tL
             try dsimp only at h dn hw hx
             refine (show At _ _ _ [] _ from ?_)
             refine At.inBlockHit ?_
             obtain ⟨w6, cz, o3⟩ := OwnSl.rlb 1009 rfl hw
             have o4 := hx.st cz z
             have pa := (((((ee.f bg z).f bh z).f aZ z).f bi z).f dn z).f cz z
             exact At.res (.inr z) z .nil ⟨(zd, ze, bQ, w6, zf), ⟨some1 h, (tr_ (su_ aD z) (tr_ (su_ aE z) (tr_ (su_ aF z) (tr_ (su_ aG z) (tr_ (su_ aH z) (tr_ (su_ aI z) (tr_ (su_ aY z) (tr_ (su_ Z z) (tr_ (su_ aJ z) (tr_ (su_ aS z) (tr_ (su_ a4 z) (tr_ (su_ a5 z) (tr_ (su_ a6 z) (tr_ (su_ a7 z) (tr_ (su_ a8 z) (tr_ (su_ a9 z) (tr_ (su_ ba z) (tr_ (su_ bb z) (tr_ (su_ bc z) (tr_ (su_ bH z) (tr_ (su_ bd z) (tr_ (su_ bf z) (tr_ (su_ bw z) (tr_ (su_ bx z) (tr_ (su_ bg z) (tr_ (su_ bh z) (tr_ (su_ aZ z) (tr_ (su_ bi z) (tr_ (su_ dn z) (su_ cz z)))))))))))))))))))))))))))))), o3, o4, pa⟩, z⟩
       ·rintro ⟨zg, zh, fq, Cm, zi⟩ BX ⟨rfl, fs, hy, hz, hA⟩
        replace h := qD
        try dsimp only at h fs hy hz hA
        refine (show WL _ _ _ _ _ ((45, tp []) :: _) _ from ?_)
        refine nl (At.inBlock (th (rg (wY (Y.add_i z z) z (wY (ym z) z (nl ?_))))))
        obtain ⟨w7, cA, pb⟩ := OwnSl.rlb 1010 rfl hy
        have pc := hz.st cA z
        have pd := hA.f cA z
        exact At.round (zg, zh, fq, w64 (iv + 1), w7, zi) xT (Nat.lt_succ_self _) ⟨next1 h gr, (tr_ (su_ bu z) (tr_ (su_ aQ z) (tr_ (su_ aR z) (tr_ (su_ fs z) (su_ cA z))))), pb, pc, pd⟩ (.cons z (.cons z (.cons z (.cons z (.cons z (.cons z (.cons z (.cons z .nil))))))))
      ·refine WC.condF' z dO (WC.exit (At.thenX (At.loopX ?_)))
       obtain ⟨w8, dy, pe⟩ := OwnSl.rlb 1011 rfl cH
       have pf := dM.st dy z
       exact At.hitB (σ := (Int × List api_Point × Own × Value)) (iu, ch, w8, ci) ⟨brk1 h gr, (tr_ (su_ bu z) (su_ dy z)), pe, pf⟩ (.cons z (.cons z (.cons z (.cons z .nil))))
     ·rintro ⟨zj, zk, Cn, zm⟩ BY ⟨rfl, ft, hC, hD⟩
      replace h := flowK_go qa
      try dsimp only at h ft hC hD
      refine (show At _ _ _ [(4, pt c 0), (18, bX), (19, vi (cg.length : Int)), (20, vi cC)] _ from ?_)
      refine At.inBlockHit ?_
      obtain ⟨w9, dz, pg⟩ := OwnSl.rlb 1012 rfl hC
      have ph := hD.st dz z
      exact At.join (σ := (Int × List api_Point × Own × Value)) (zj, zk, w9, zm) ⟨some1 h, (tr_ (su_ ft z) (su_ dz z)), pg, ph⟩ (.cons z (.cons z (.cons z (.cons z .nil))))
    ·rintro ⟨zn, zo, Co, zp⟩ BZ ⟨rfl, fu, hE, hF⟩
     replace h := p9
     try dsimp only at h fu hE hF
     refine (show At _ _ _ [(4, pt c 0), (18, bX), (19, vi (cg.length : Int)), (20, vi cC)] _ from ?_)
     refine At.inBlock (th (rg (wY (Y.add_i z z) z (wY (ym z) z (nl ?_)))))
     obtain ⟨xa, dA, pi⟩ := OwnSl.rlb 1013 rfl hE
     have pj := hF.st dA z
     exact At.round (zn, zo, w64 (cC + 1), xa, zp) zP (Nat.lt_succ_self _) ⟨next1 h ik, (tr_ (su_ bL z) (tr_ (su_ bn z) (tr_ (su_ bo z) (tr_ (su_ bp z) (tr_ (su_ bq z) (tr_ (su_ br z) (tr_ (su_ bM z) (tr_ (su_ bs z) (tr_ (su_ bE z) (tr_ (su_ bt z) (tr_ (su_ fu z) (su_ dA z)))))))))))), pi, pj⟩ (.cons z (.cons z (.cons z (.cons z .nil))))
   ·refine WC.condF' z fx (WC.exit (At.thenX (At.loopX ?_)))
    obtain ⟨xb, dB, pk⟩ := OwnSl.rlb 1014 rfl fv
    have pl := fw.st dB z
    exact At.hitB (σ := (Int × List api_Point × Own × Value)) (xi, gi, xb, gj) ⟨brk1 h ik, (tr_ (su_ bL z) (su_ dB z)), pk, pl⟩ (.cons z .nil)
  ·rintro ⟨AB, AC, Cs, AD⟩ Cp ⟨rfl, hG, pm, pn⟩
   replace h := flowK_go xy
   try dsimp only at h hG pm pn
   refine (show At _ _ _ [(4, pt c 0)] _ from ?_)
   refine At.inBlockHit ?_
   obtain ⟨xc, dC, po⟩ := OwnSl.rlb 1016 rfl pm
   have pp := pn.st dC z
   exact At.join (σ := (Int × List api_Point × Own × Value)) (AB, AC, xc, AD) ⟨some1 h, (tr_ (su_ hG z) (su_ dC z)), po, pp⟩ (.cons z .nil)
 ·rintro ⟨Ct, Cu, pq, AE⟩ ps ⟨rfl, cX, pu, eX⟩
  replace h := xx
  try dsimp only at h cX pu eX
  refine (show At _ _ _ [(4, pt c 0)] _ from ?_)
  refine th (sq (sq (rg (wY (ym z) z (wY (yn z) z (wY (yf fo74_0 z) z (wY (yl ty34 z z (eX.cell 0 _ z)) z (wY (Y.neq_i z z) z (nl ?_)))))))))
  refine th ?_
  rcases cnd h with ⟨dp, h⟩ | ⟨dp, h⟩
  ·refine WC.condT' z dp (sq (WC.draw 5 pq fmix (by kernel_rfl) ?_))
   intro pw dD
   refine WS.y (ym z) z (WS.y (yn z) z (WS.y (yf fo74_0 z) z ?_))
   have px := eX.st dD z
   refine WS.y (yl ty34 z z (px.cell 0 _ z)) z (WS.y (ya z) z (WS.tail (wY (ya z) z (nl (th (rt (At.thenR ?_)))))))
   obtain ⟨rfl, rfl⟩ := tup2 h
   have py : Stp [11, 12, 13, 14, 15, 16, 17, 19, 20, 21, 22, 23, 24, 25, 28, 30, 31, 1001, 1002, 1006, 1007, 1008, 1009, 1010, 1011, 1012, 1013, 1014, 1020, 1021] (Lg.O0 A) w pq pw := (tr_ (su_ bJ z) (tr_ (su_ bC z) (tr_ (su_ bD z) (tr_ (su_ bO z) (tr_ (su_ bK z) (tr_ (su_ cX z) (su_ dD z)))))))
   exact At.res (.inl z) z (.tmp z (.tmp z .nil)) ⟨sn, z, (se_ py z z), (Or.inl ⟨z, z⟩)⟩
  ·refine WC.condF' z dp (sk (th (sq (rg (wY (ym z) z (wY (yn z) z (wY (yf fo74_1 z) z (wY (yl ty22 z z (eX.cell 1 _ z)) z (wY (ya z) z ?_)))))))))
   refine wY (ya z) z (nl (th (rt ?_)))
   obtain ⟨rfl, rfl⟩ := tup2 h
   have pz : Stp [11, 12, 13, 14, 15, 16, 17, 19, 20, 21, 22, 23, 24, 25, 28, 30, 31, 1001, 1002, 1006, 1007, 1008, 1009, 1010, 1011, 1012, 1013, 1014, 1020, 1021] (Lg.O0 A) w pq ps := (tr_ (su_ bJ z) (tr_ (su_ bC z) (tr_ (su_ bD z) (tr_ (su_ bO z) (tr_ (su_ bK z) (su_ cX z))))))
   obtain ⟨xd, ia, pA⟩ := OwnSl.giveB rfl pu pz low0
   have pB : Stp [11, 12, 13, 14, 15, 16, 17, 19, 20, 21, 22, 23, 24, 25, 28, 30, 31, 1001, 1002, 1006, 1007, 1008, 1009, 1010, 1011, 1012, 1013, 1014, 1016, 1020, 1021] (Lg.O0 A) w xd ps := (tr_ (su_ bJ z) (tr_ (su_ bC z) (tr_ (su_ bD z) (tr_ (su_ bO z) (tr_ (su_ bK z) (tr_ (su_ cX z) (su_ ia z)))))))
   exact At.res (.inl z) z (.tmp z (.tmp z .nil)) ⟨AE, z, (se_ pB z z), (Sl.outFb pA)⟩
theorem c_law31_awake {w : World} {r0 : Bool} (h : law31_awake = some r0) : Rets Try.prog 14 [] w (fun v w' => v = vB r0 ∧ Ext w w') := by
 unfold law31_awake at h
 refine Rets.enter Try.func14 z z ?_
 refine (show WC _ _ _ _ [] _ from ?_)
 refine sq (rg (wY (ya z) z (nl (th (sq (rg (wY (yb (vals := [(0, vs [97]), (1, vs [49])]) (cells := [vs [97], vs [49]]) (fe_ z) (by kernel_rfl)) z (WL.buildSlice (O := (Lg.O0 (fun _ => False))) (R := rep_api_Pair) (vals := [(0, Value.agg (List.toArray [vs [97], vs [49]]))]) 11 [vs [97], vs [49]] (xs := [(api_Pair.mk [97] [49])]) (by decide) ty25 ty65 (by decide) (by decide) (fe_ z) (by kernel_rfl) z ⟨[vs [97], vs [49]], [], z, ⟨[vs [97]], [vs [49]], z, z, z⟩, z⟩ z ?_))))))))
 intro cP b9 cE K an
 have bn := h
 obtain ⟨c, d, j, rfl⟩ := an.shape
 have h := bn
 refine wY (yb (vals := [(0, vs [120]), (1, (vl c d j)), (2, vi 1), (3, vi 2), (6, vi 10), (7, vi (-5))]) (cells := [vs [120], (vl c d j), vi 1, vi 2, vB false, vi 0, vi 10, vi (-5), vu 0, vu 0, vi 0, vu 0, vi 0, sn, vi 0, sn, vi 0]) (fe_ z) (by kernel_rfl)) z (WL.alloc (O := b9) 12 [vs [], sn, vi 0, vi 0, vB false, vi 0, vi 0, vi 0, vu 0, vu 0, vi 0, vu 0, vi 0, sn, vi 0, sn, vi 0] ty33 z z ?_)
 intro cQ cR cF D bo
 refine WL.store (v := Value.agg (List.toArray [vs [120], (vl c d j), vi 1, vi 2, vB false, vi 0, vi 10, vi (-5), vu 0, vu 0, vi 0, vu 0, vi 0, sn, vi 0, sn, vi 0])) (cells' := [vs [120], (vl c d j), vi 1, vi 2, vB false, vi 0, vi 10, vi (-5), vu 0, vu 0, vi 0, vu 0, vi 0, sn, vi 0, sn, vi 0]) ty33 z z bo z (le_ z) z z ?_
 intro ao E ai
 refine nl (th (sq (rg (wY (yL ty33 z z (ai.cells 0 [vs [120], (vl c d j), vi 1, vi 2, vB false, vi 0, vi 10, vi (-5), vu 0, vu 0, vi 0, vu 0, vi 0, sn, vi 0, sn, vi 0] z) z) z (wY (yL ty33 z z (ai.cells 0 [vs [120], (vl c d j), vi 1, vi 2, vB false, vi 0, vi 10, vi (-5), vu 0, vu 0, vi 0, vu 0, vi 0, sn, vi 0, sn, vi 0] z) z) z ?_)))))
 have bq := (an.st D z z z).st E z z z
 obtain ⟨ap, F, aj⟩ := OwnSl.giveF rfl flat_api_Pair bq
 have br : Stp [11, 12] (Lg.O0 (fun _ => False)) w ap ao := (tr_ (su_ K z) (tr_ (su_ D z) (tr_ (su_ E z) (su_ F z))))
 have bs : Stp [11, 12] (Lg.O0 (fun _ => False)) w ap ao := (tr_ (su_ K z) (tr_ (su_ D z) (tr_ (su_ E z) (su_ F z))))
 refine WL.buildSlice (O := ap) (R := (frR rep_api_Point w.heap.size)) (vals := [(0, Value.agg (List.toArray [vs [120], (vl c d j), vi 1, vi 2, vB false, vi 0, vi 10, vi (-5), vu 0, vu 0, vi 0, vu 0, vi 0, sn, vi 0, sn, vi 0])), (1, Value.agg (List.toArray [vs [120], (vl c d j), vi 1, vi 2, vB false, vi 0, vi 10, vi (-5), vu 0, vu 0, vi 0, vu 0, vi 0, sn, vi 0, sn, vi 0]))]) 13 [vs [120], (vl c d j), vi 1, vi 2, vB false, vi 0, vi 10, vi (-5), vu 0, vu 0, vi 0, vu 0, vi 0, sn, vi 0, sn, vi 0, vs [120], (vl c d j), vi 1, vi 2, vB false, vi 0, vi 10, vi (-5), vu 0, vu 0, vi 0, vu 0, vi 0, sn, vi 0, sn, vi 0] (xs := [(api_Point.mk [120] [(api_Pair.mk [97] [49])] 1 2 false 0 10 (-5) 0 0 (api_Hist.mk 0 0 (api_Side.mk 0 []) (api_Side.mk 0 [])) 0), (api_Point.mk [120] [(api_Pair.mk [97] [49])] 1 2 false 0 10 (-5) 0 0 (api_Hist.mk 0 0 (api_Side.mk 0 []) (api_Side.mk 0 [])) 0)]) (by decide) ty22 ty33 (show 0 < rep_api_Point.n by decide) (show 2 * rep_api_Point.n ≤ 65536 by decide) (fe_ z) (by kernel_rfl) z ⟨[vs [120], (vl c d j), vi 1, vi 2, vB false, vi 0, vi 10, vi (-5), vu 0, vu 0, vi 0, vu 0, vi 0, sn, vi 0, sn, vi 0], [vs [120], (vl c d j), vi 1, vi 2, vB false, vi 0, vi 10, vi (-5), vu 0, vu 0, vi 0, vu 0, vi 0, sn, vi 0, sn, vi 0], z, ⟨[vs [120]], [(vl c d j), vi 1, vi 2, vB false, vi 0, vi 10, vi (-5), vu 0, vu 0, vi 0, vu 0, vi 0, sn, vi 0, sn, vi 0], z, z, ⟨[(vl c d j)], [vi 1, vi 2, vB false, vi 0, vi 10, vi (-5), vu 0, vu 0, vi 0, vu 0, vi 0, sn, vi 0, sn, vi 0], z, ⟨_, z, (Sl.frB aj br low0)⟩, ⟨[vi 1], [vi 2, vB false, vi 0, vi 10, vi (-5), vu 0, vu 0, vi 0, vu 0, vi 0, sn, vi 0, sn, vi 0], z, z, ⟨[vi 2], [vB false, vi 0, vi 10, vi (-5), vu 0, vu 0, vi 0, vu 0, vi 0, sn, vi 0, sn, vi 0], z, z, ⟨[vB false], [vi 0, vi 10, vi (-5), vu 0, vu 0, vi 0, vu 0, vi 0, sn, vi 0, sn, vi 0], z, z, ⟨[vi 0], [vi 10, vi (-5), vu 0, vu 0, vi 0, vu 0, vi 0, sn, vi 0, sn, vi 0], z, z, ⟨[vi 10], [vi (-5), vu 0, vu 0, vi 0, vu 0, vi 0, sn, vi 0, sn, vi 0], z, z, ⟨[vi (-5)], [vu 0, vu 0, vi 0, vu 0, vi 0, sn, vi 0, sn, vi 0], z, z, ⟨[vu 0], [vu 0, vi 0, vu 0, vi 0, sn, vi 0, sn, vi 0], z, z, ⟨[vu 0], [vi 0, vu 0, vi 0, sn, vi 0, sn, vi 0], z, z, ⟨hzr, [vi 0], z, ⟨[vi 0], [vu 0, vi 0, sn, vi 0, sn], z, z, ⟨[vu 0], [vi 0, sn, vi 0, sn], z, z, ⟨[vi 0, sn], [vi 0, sn], z, ⟨[vi 0], [sn], z, z, ⟨_, z, (Or.inl ⟨z, z⟩)⟩⟩, ⟨[vi 0], [sn], z, z, ⟨_, z, (Or.inl ⟨z, z⟩)⟩⟩⟩⟩⟩, z⟩⟩⟩⟩⟩⟩⟩⟩⟩⟩⟩, ⟨[vs [120], (vl c d j), vi 1, vi 2, vB false, vi 0, vi 10, vi (-5), vu 0, vu 0, vi 0, vu 0, vi 0, sn, vi 0, sn, vi 0], [], z, ⟨[vs [120]], [(vl c d j), vi 1, vi 2, vB false, vi 0, vi 10, vi (-5), vu 0, vu 0, vi 0, vu 0, vi 0, sn, vi 0, sn, vi 0], z, z, ⟨[(vl c d j)], [vi 1, vi 2, vB false, vi 0, vi 10, vi (-5), vu 0, vu 0, vi 0, vu 0, vi 0, sn, vi 0, sn, vi 0], z, ⟨_, z, (Sl.frB aj bs low0)⟩, ⟨[vi 1], [vi 2, vB false, vi 0, vi 10, vi (-5), vu 0, vu 0, vi 0, vu 0, vi 0, sn, vi 0, sn, vi 0], z, z, ⟨[vi 2], [vB false, vi 0, vi 10, vi (-5), vu 0, vu 0, vi 0, vu 0, vi 0, sn, vi 0, sn, vi 0], z, z, ⟨[vB false], [vi 0, vi 10, vi (-5), vu 0, vu 0, vi 0, vu 0, vi 0, sn, vi 0, sn, vi 0], z, z, ⟨[vi 0], [vi 10, vi (-5), vu 0, vu 0, vi 0, vu 0, vi 0, sn, vi 0, sn, vi 0], z, z, ⟨[vi 10], [vi (-5), vu 0, vu 0, vi 0, vu 0, vi 0, sn, vi 0, sn, vi 0], z, z, ⟨[vi (-5)], [vu 0, vu 0, vi 0, vu 0, vi 0, sn, vi 0, sn, vi 0], z, z, ⟨[vu 0], [vu 0, vi 0, vu 0, vi 0, sn, vi 0, sn, vi 0], z, z, ⟨[vu 0], [vi 0, vu 0, vi 0, sn, vi 0, sn, vi 0], z, z, ⟨hzr, [vi 0], z, ⟨[vi 0], [vu 0, vi 0, sn, vi 0, sn], z, z, ⟨[vu 0], [vi 0, sn, vi 0, sn], z, z, ⟨[vi 0, sn], [vi 0, sn], z, ⟨[vi 0], [sn], z, z, ⟨_, z, (Or.inl ⟨z, z⟩)⟩⟩, ⟨[vi 0], [sn], z, z, ⟨_, z, (Or.inl ⟨z, z⟩)⟩⟩⟩⟩⟩, z⟩⟩⟩⟩⟩⟩⟩⟩⟩⟩⟩, z⟩⟩ z ?_
 intro ca cb cG M bt
 obtain ⟨⟨cc, I⟩, bu, h⟩ := bnd h
 refine WL.call (vals := [ca]) kok15 z z (c_otlp_Encode (A := fun _ => True) (Sl.unfr bt.src.sl) bu) ?_
 rintro cH bw ⟨aq, rfl, bx, cd⟩
 obtain ⟨bl, ce, ar, P⟩ := adoptE cb (fun k => if ob aq = some k then 14 else 1) bx
 have bz : OwnSl 14 Rep.b 5 bl bw aq cc := RowF.adopt 14 Flat.b cd ar (fun k hk => if_pos hk)
 refine wY (ym z) z (wY (yx z z) z (wY (yx z z) z (wY (ya z) z (wY (ya z) z (nl (th (sq (rg (wY (ym z) z ?_)))))))))
 obtain ⟨⟨ah, J⟩, bA, h⟩ := bnd h
 refine WL.call (vals := [aq]) kok16 z z (c_otlp_Decode (A := fun _ => True) (bz.src.sl) bA) ?_
 rintro cI bB ⟨S, rfl, bC, cf⟩
 obtain ⟨bm, cg, au, Q⟩ := adoptE bl (fun k => 1) bC
 have ak : Sl rep_api_Point bB (frs bm) S ah := Sl.adoptF cf (fun k hk => ⟨hk, z⟩) au
 refine wY (ym z) z (wY (yx z z) z (wY (yx z z) z (wY (ya z) z (wY (ya z) z (nl (th (sq (rg ?_))))))))
 obtain ⟨⟨q, l⟩, bD, h⟩ := bnd h
 refine WL.call (vals := [sn]) kok16 z z (c_otlp_Decode (A := fun _ => True) (Or.inl ⟨z, z⟩) bD) ?_
 rintro cJ bE ⟨G, rfl, bG, ch⟩
 obtain ⟨av, ci, ax, r⟩ := adoptE bm (fun k => 1) bG
 have bH : Sl rep_api_Point bE (frs av) G q := Sl.adoptF ch (fun k hk => ⟨hk, z⟩) ax
 refine wY (ym z) z (wY (yx z z) z (wY (yx z z) z (wY (ya z) z (wY (ya z) z (nl (th (sq (rg (wY (yf fo33_11 z) z ?_)))))))))
 have bM := ((((ai.st F z).st M z).st P z).st Q z).st r z
 refine WL.store (v := vi 1) (cells' := [vs [120], (vl c d j), vi 1, vi 2, vB false, vi 0, vi 10, vi (-5), vu 0, vu 0, vi 0, vu 0, vi 0, sn, vi 0, sn, vi 1]) ty3 z z bM z (le_ z) z z ?_
 intro bO t bP
 refine nl (th (sq (rg (wY (yL ty33 z z (bP.cells 0 [vs [120], (vl c d j), vi 1, vi 2, vB false, vi 0, vi 10, vi (-5), vu 0, vu 0, vi 0, vu 0, vi 0, sn, vi 0, sn, vi 1] z) z) z ?_))))
 have bU := ((((aj.f M z).f P z).f Q z).f r z).f t z
 have bW : Stp [11, 12] (Lg.O0 (fun _ => False)) w av bO := (tr_ (su_ K z) (tr_ (su_ D z) (tr_ (su_ E z) (tr_ (su_ F z) (tr_ (su_ M z) (tr_ (su_ P z) (tr_ (su_ Q z) (tr_ (su_ r z) (su_ t z)))))))))
 refine WL.buildSlice (O := av) (R := (frR rep_api_Point w.heap.size)) (vals := [(0, Value.agg (List.toArray [vs [120], (vl c d j), vi 1, vi 2, vB false, vi 0, vi 10, vi (-5), vu 0, vu 0, vi 0, vu 0, vi 0, sn, vi 0, sn, vi 1]))]) 15 [vs [120], (vl c d j), vi 1, vi 2, vB false, vi 0, vi 10, vi (-5), vu 0, vu 0, vi 0, vu 0, vi 0, sn, vi 0, sn, vi 1] (xs := [(api_Point.mk [120] [(api_Pair.mk [97] [49])] 1 2 false 0 10 (-5) 0 0 (api_Hist.mk 0 0 (api_Side.mk 0 []) (api_Side.mk 0 [])) 1)]) (by decide) ty22 ty33 (show 0 < rep_api_Point.n by decide) (show 1 * rep_api_Point.n ≤ 65536 by decide) (fe_ z) (by kernel_rfl) z ⟨[vs [120], (vl c d j), vi 1, vi 2, vB false, vi 0, vi 10, vi (-5), vu 0, vu 0, vi 0, vu 0, vi 0, sn, vi 0, sn, vi 1], [], z, ⟨[vs [120]], [(vl c d j), vi 1, vi 2, vB false, vi 0, vi 10, vi (-5), vu 0, vu 0, vi 0, vu 0, vi 0, sn, vi 0, sn, vi 1], z, z, ⟨[(vl c d j)], [vi 1, vi 2, vB false, vi 0, vi 10, vi (-5), vu 0, vu 0, vi 0, vu 0, vi 0, sn, vi 0, sn, vi 1], z, ⟨_, z, (Sl.frB bU bW low0)⟩, ⟨[vi 1], [vi 2, vB false, vi 0, vi 10, vi (-5), vu 0, vu 0, vi 0, vu 0, vi 0, sn, vi 0, sn, vi 1], z, z, ⟨[vi 2], [vB false, vi 0, vi 10, vi (-5), vu 0, vu 0, vi 0, vu 0, vi 0, sn, vi 0, sn, vi 1], z, z, ⟨[vB false], [vi 0, vi 10, vi (-5), vu 0, vu 0, vi 0, vu 0, vi 0, sn, vi 0, sn, vi 1], z, z, ⟨[vi 0], [vi 10, vi (-5), vu 0, vu 0, vi 0, vu 0, vi 0, sn, vi 0, sn, vi 1], z, z, ⟨[vi 10], [vi (-5), vu 0, vu 0, vi 0, vu 0, vi 0, sn, vi 0, sn, vi 1], z, z, ⟨[vi (-5)], [vu 0, vu 0, vi 0, vu 0, vi 0, sn, vi 0, sn, vi 1], z, z, ⟨[vu 0], [vu 0, vi 0, vu 0, vi 0, sn, vi 0, sn, vi 1], z, z, ⟨[vu 0], [vi 0, vu 0, vi 0, sn, vi 0, sn, vi 1], z, z, ⟨hzr, [vi 1], z, ⟨[vi 0], [vu 0, vi 0, sn, vi 0, sn], z, z, ⟨[vu 0], [vi 0, sn, vi 0, sn], z, z, ⟨[vi 0, sn], [vi 0, sn], z, ⟨[vi 0], [sn], z, z, ⟨_, z, (Or.inl ⟨z, z⟩)⟩⟩, ⟨[vi 0], [sn], z, z, ⟨_, z, (Or.inl ⟨z, z⟩)⟩⟩⟩⟩⟩, z⟩⟩⟩⟩⟩⟩⟩⟩⟩⟩⟩, z⟩ z ?_
 intro cj ck cK H bX
 obtain ⟨⟨cl, o⟩, aI, h⟩ := bnd h
 refine WL.call (vals := [cj]) kok15 z z (c_otlp_Encode (A := fun _ => True) (Sl.unfr bX.src.sl) aI) ?_
 rintro ct p ⟨ay, rfl, aJ, bY⟩
 obtain ⟨az, b8, am, C⟩ := adoptE ck (fun k => if ob ay = some k then 16 else 1) aJ
 have cu : OwnSl 16 Rep.b 5 az p ay cl := RowF.adopt 16 Flat.b bY am (fun k hk => if_pos hk)
 refine wY (ym z) z (wY (yx z z) z (wY (yx z z) z (wY (ya z) z (wY (ya z) z (nl (th (sq (rg (wY (ym z) z ?_)))))))))
 refine wY (Y.eql_i z z) z (wY (ym z) z ?_)
 refine WL.cut 3 (σ := Unit) (fun _ w' => p = w') (fun _ => [(4, S), (6, G), (7, vi l), (9, vi o), (41, vB ((decide (I = 0)) && (decide (J = 0))))]) ?_ ?_
 ·refine WL.part 38 z (fun T => ?_) (fun T => ?_)
  ·refine ug z z (wY (ym z) z (ug z z (wY (Y.eql_i z z) z (wY (Y.pick (b := true) z z) z (WL.ren (v' := vB ((decide (I = 0)) && (decide (J = 0)))) 41 z (congrArg vB (andT T)) ?_)))))
   exact nl (At.join () z (.cons z (.cons z (.cons z (.cons z (.cons z .nil))))))
  ·refine WL.gS z z z z (WL.gS z z z z (wY (Y.pick (b := false) z z) z (WL.ren (v' := vB ((decide (I = 0)) && (decide (J = 0)))) 41 z (congrArg vB (andF T)) ?_)))
   exact nl (At.join () z (.cons z (.cons z (.cons z (.cons z (.cons z .nil))))))
 ·rintro _ _ rfl
  refine (show WL _ _ _ _ _ [(4, S), (6, G), (7, vi l), (9, vi o), (41, vB ((decide (I = 0)) && (decide (J = 0))))] _ from ?_)
  refine wY (ym z) z ?_
  refine WL.cut 4 (σ := Unit) (fun _ w' => p = w') (fun _ => [(4, S), (6, G), (7, vi l), (9, vi o), (46, vB (((decide (I = 0)) && (decide (J = 0))) && (decide ((ah.length : Int) = 2))))]) ?_ ?_
  ·refine WL.part 42 z (fun U => ?_) (fun U => ?_)
   ·refine ug z z (wY (ym z) z (ug z z ?_))
    have aN := (((ak.f r z).f t z).f H z).f C z
    refine wY (Y.len ty22 z aN) z (ug z z (wY (Y.eql_i z z) z (wY (Y.pick (b := true) z z) z (WL.ren (v' := vB (((decide (I = 0)) && (decide (J = 0))) && (decide ((ah.length : Int) = 2)))) 46 z (congrArg vB (andT U)) ?_))))
    exact nl (At.join () z (.cons z (.cons z (.cons z (.cons z (.cons z .nil))))))
   ·refine WL.gS z z z z (WL.gS z z z z (WL.gS z z z z (wY (Y.pick (b := false) z z) z (WL.ren (v' := vB (((decide (I = 0)) && (decide (J = 0))) && (decide ((ah.length : Int) = 2)))) 46 z (congrArg vB (andF U)) ?_))))
    exact nl (At.join () z (.cons z (.cons z (.cons z (.cons z (.cons z .nil))))))
  ·rintro _ _ rfl
   refine (show WL _ _ _ _ _ [(4, S), (6, G), (7, vi l), (9, vi o), (46, vB (((decide (I = 0)) && (decide (J = 0))) && (decide ((ah.length : Int) = 2))))] _ from ?_)
   refine wY (ym z) z ?_
   obtain ⟨bZ, h, aO⟩ := bnd h
   refine WL.cut 6 (σ := Bool) (fun x w' => x = bZ ∧ p = w') (fun x => [(4, S), (6, G), (7, vi l), (9, vi o), (53, vB x)]) ?_ ?_
   ·rcases cnd h with ⟨W, h⟩ | ⟨W, h⟩
    ·refine WL.ren 47 z (congrArg vB W) (ug z z (wY (ym z) z (ug z z ?_)))
     obtain ⟨al, aP, h⟩ := bnd h
     have aT := (((ak.f r z).f t z).f H z).f C z
     obtain ⟨cL, cm, cn, cv, aU, aW, aX, X, aA, aY⟩ := Sl.at2 aT aP
     obtain ⟨_, _, rfl, rfl, ⟨_, _, rfl, ⟨b0, rfl, cw⟩, ⟨_, _, rfl, rfl, ⟨_, _, rfl, rfl, ⟨_, _, rfl, rfl, ⟨_, _, rfl, rfl, ⟨_, _, rfl, rfl, ⟨_, _, rfl, rfl, ⟨_, _, rfl, rfl, ⟨_, _, rfl, rfl, ⟨_, _, rfl, ⟨_, _, rfl, rfl, ⟨_, _, rfl, rfl, ⟨_, _, rfl, ⟨_, _, rfl, rfl, ⟨b1, rfl, cx⟩⟩, ⟨_, _, rfl, rfl, ⟨b2, rfl, cy⟩⟩⟩⟩⟩, rfl⟩⟩⟩⟩⟩⟩⟩⟩⟩⟩⟩ := aA
     replace X : CellsAt _ _ _ (cp al b0 b1 b2) := X
     have aC := CAt.frs X aY
     refine wY (Y.indexAddr ty22 ty33 z aU z aW aX) z (ug z z (wY (yf fo33_7 z) z (ug z z (wY (yl ty3 z z (aC.at_.sub 7 [vi al.Int_] z)) z (ug z z (wY (Y.eql_i z z) z (wY (Y.pick (b := true) z z) z ?_)))))))
     exact nl (At.join (σ := Bool) (decide (al.Int_ = (-5))) ⟨some1 h, z⟩ (.cons z (.cons z (.cons z (.cons z (.cons z .nil))))))
    ·refine WL.ren 47 z (congrArg vB W) (WL.gS z z z z (WL.gS z z z z (WL.gS z z z z (WL.gS z z z z (WL.gS z z z z (wY (Y.pick (b := false) z z) z ?_))))))
     exact nl (At.join (σ := Bool) false ⟨some1 h, z⟩ (.cons z (.cons z (.cons z (.cons z (.cons z .nil))))))
   ·rintro b3 _ ⟨rfl, rfl⟩
    replace h := aO
    try dsimp only at h
    refine (show WL _ _ _ _ _ [(4, S), (6, G), (7, vi l), (9, vi o), (53, vB b3)] _ from ?_)
    refine wY (ym z) z ?_
    obtain ⟨b4, h, aZ⟩ := bnd h
    refine WL.cut 9 (σ := Bool) (fun x w' => x = b4 ∧ p = w') (fun x => [(6, G), (7, vi l), (9, vi o), (63, vB x)]) ?_ ?_
    ·rcases cnd h with ⟨Z, h⟩ | ⟨Z, h⟩
     ·refine WL.ren 54 z (congrArg vB Z) (ug z z (wY (ym z) z (ug z z ?_)))
      obtain ⟨b5, a0, h⟩ := bnd h
      have a4 := (((ak.f r z).f t z).f H z).f C z
      obtain ⟨cM, co, cq, cz, a5, a6, a7, aa, aD, a8⟩ := Sl.at2 a4 a0
      obtain ⟨_, _, rfl, rfl, ⟨_, _, rfl, ⟨aE, rfl, a9⟩, ⟨_, _, rfl, rfl, ⟨_, _, rfl, rfl, ⟨_, _, rfl, rfl, ⟨_, _, rfl, rfl, ⟨_, _, rfl, rfl, ⟨_, _, rfl, rfl, ⟨_, _, rfl, rfl, ⟨_, _, rfl, rfl, ⟨_, _, rfl, ⟨_, _, rfl, rfl, ⟨_, _, rfl, rfl, ⟨_, _, rfl, ⟨_, _, rfl, rfl, ⟨b6, rfl, cA⟩⟩, ⟨_, _, rfl, rfl, ⟨b7, rfl, cC⟩⟩⟩⟩⟩, rfl⟩⟩⟩⟩⟩⟩⟩⟩⟩⟩⟩ := aD
      replace aa : CellsAt _ _ _ (cp b5 aE b6 b7) := aa
      have aF := CAt.frs aa a8
      refine wY (Y.indexAddr ty22 ty33 z a5 z a6 a7) z (ug z z (wY (yf fo33_1 z) z (ug z z (wY (yl ty25 z z (aF.at_.sub 1 [aE] z)) z (ug z z ?_)))))
      obtain ⟨ab, ba, h⟩ := bnd h
      obtain ⟨cN, cr, cs, cD, bb, bc, bd, ac, aG, bf⟩ := Sl.at2 a9 ba
      obtain ⟨_, _, rfl, rfl, rfl⟩ := aG
      replace ac : CellsAt _ _ _ [vs ab.Key, vs ab.Val] := ac
      have aH := CAt.frs ac bf
      refine wY (Y.indexAddr ty25 ty65 z bb z bc bd) z (ug z z (wY (yf fo65_1 z) z (ug z z (wY (yl ty9 z z (aH.at_.sub 1 [vs ab.Val] z)) z (ug z z (wY (Y.eql_s (b := [49]) z z) z (wY (Y.pick (b := true) z z) z ?_)))))))
      exact nl (At.join (σ := Bool) (decide (ab.Val = [49])) ⟨some1 h, z⟩ (.cons z (.cons z (.cons z (.cons z .nil)))))
     ·refine WL.ren 54 z (congrArg vB Z) (WL.gS z z z z (WL.gS z z z z (WL.gS z z z z (WL.gS z z z z (WL.gS z z z z (WL.gS z z z z (WL.gS z z z z (WL.gS z z z z (wY (Y.pick (b := false) z z) z ?_)))))))))
      exact nl (At.join (σ := Bool) false ⟨some1 h, z⟩ (.cons z (.cons z (.cons z (.cons z .nil)))))
    ·rintro m _ ⟨rfl, rfl⟩
     replace h := aZ
     try dsimp only at h
     refine (show WL _ _ _ _ _ [(6, G), (7, vi l), (9, vi o), (63, vB m)] _ from ?_)
     refine wY (ym z) z ?_
     refine WL.cut 4 (σ := Unit) (fun _ w' => p = w') (fun _ => [(7, vi l), (9, vi o), (68, vB (m && (decide ((q.length : Int) = 0))))]) ?_ ?_
     ·refine WL.part 64 z (fun ad => ?_) (fun ad => ?_)
      ·refine ug z z (wY (ym z) z (ug z z ?_))
       have bi := ((bH.f t z).f H z).f C z
       refine wY (Y.len ty22 z bi) z (ug z z (wY (Y.eql_i z z) z (wY (Y.pick (b := true) z z) z (WL.ren (v' := vB (m && (decide ((q.length : Int) = 0)))) 68 z (congrArg vB (andT ad)) ?_))))
       exact nl (At.join () z (.cons z (.cons z (.cons z .nil))))
      ·refine WL.gS z z z z (WL.gS z z z z (WL.gS z z z z (wY (Y.pick (b := false) z z) z (WL.ren (v' := vB (m && (decide ((q.length : Int) = 0)))) 68 z (congrArg vB (andF ad)) ?_))))
       exact nl (At.join () z (.cons z (.cons z (.cons z .nil))))
     ·rintro _ _ rfl
      refine (show WL _ _ _ _ _ [(7, vi l), (9, vi o), (68, vB (m && (decide ((q.length : Int) = 0))))] _ from ?_)
      refine wY (ym z) z ?_
      refine WL.cut 3 (σ := Unit) (fun _ w' => p = w') (fun _ => [(9, vi o), (72, vB ((m && (decide ((q.length : Int) = 0))) && (decide (l = 0))))]) ?_ ?_
      ·refine WL.part 69 z (fun ae => ?_) (fun ae => ?_)
       ·refine ug z z (wY (ym z) z (ug z z (wY (Y.eql_i z z) z (wY (Y.pick (b := true) z z) z (WL.ren (v' := vB ((m && (decide ((q.length : Int) = 0))) && (decide (l = 0)))) 72 z (congrArg vB (andT ae)) ?_)))))
        exact nl (At.join () z (.cons z (.cons z .nil)))
       ·refine WL.gS z z z z (WL.gS z z z z (wY (Y.pick (b := false) z z) z (WL.ren (v' := vB ((m && (decide ((q.length : Int) = 0))) && (decide (l = 0)))) 72 z (congrArg vB (andF ae)) ?_)))
        exact nl (At.join () z (.cons z (.cons z .nil)))
      ·rintro _ _ rfl
       refine (show WL _ _ _ _ _ [(9, vi o), (72, vB ((m && (decide ((q.length : Int) = 0))) && (decide (l = 0))))] _ from ?_)
       refine wY (ym z) z ?_
       refine WL.cut 3 (σ := Unit) (fun _ w' => p = w') (fun _ => [(76, vB (((m && (decide ((q.length : Int) = 0))) && (decide (l = 0))) && (decide (o = 3))))]) ?_ ?_
       ·refine WL.part 73 z (fun af => ?_) (fun af => ?_)
        ·refine ug z z (wY (ym z) z (ug z z (wY (Y.eql_i z z) z (wY (Y.pick (b := true) z z) z (WL.ren (v' := vB (((m && (decide ((q.length : Int) = 0))) && (decide (l = 0))) && (decide (o = 3)))) 76 z (congrArg vB (andT af)) ?_)))))
         exact nl (At.join () z (.cons z .nil))
        ·refine WL.gS z z z z (WL.gS z z z z (wY (Y.pick (b := false) z z) z (WL.ren (v' := vB (((m && (decide ((q.length : Int) = 0))) && (decide (l = 0))) && (decide (o = 3)))) 76 z (congrArg vB (andF af)) ?_)))
         exact nl (At.join () z (.cons z .nil))
       ·rintro _ _ rfl
        refine (show WL _ _ _ _ _ [(76, vB (((m && (decide ((q.length : Int) = 0))) && (decide (l = 0))) && (decide (o = 3))))] _ from ?_)
        obtain ⟨cO, bj, h⟩ := lt1 h
        refine WL.yE (ya z) (congrArg vB bj.symm) z (nl (th (rt ?_)))
        obtain rfl := some1 h
        have bk : Stp [11, 12] (Lg.O0 (fun _ => False)) w az p := (tr_ (su_ K z) (tr_ (su_ D z) (tr_ (su_ E z) (tr_ (su_ F z) (tr_ (su_ M z) (tr_ (su_ P z) (tr_ (su_ Q z) (tr_ (su_ r z) (tr_ (su_ t z) (tr_ (su_ H z) (su_ C z)))))))))))
        exact At.res (.inl z) z (.tmp z .nil) ⟨z, (se_ bk z z)⟩
theorem c_law31_OtlpBack {A : Nat → Prop} {a0 : List api_Point} {v0 : Value} {a1 : List UInt8} {v1 : Value} {w : World} (hs0 : Sl rep_api_Point w A v0 a0) (hs1 : Sl Rep.b w A v1 a1) {r0 : Bool} (h : law31_OtlpBack a0 a1 = some r0) : Rets Try.prog 5 [v0, v1] w (fun v w' => v = vB r0 ∧ Ext w w') := by
 unfold law31_OtlpBack at h
 refine Rets.enter Try.func5 z z ?_
 have bA : Sl rep_api_Point w (imm (Lg.O0 A)) v0 a0 := (Sl.start hs0)
 have au : Sl Rep.b w (imm (Lg.O0 A)) v1 a1 := (Sl.start hs1)
 refine (show WC _ _ _ _ [(0, v0), (1, v1)] _ from ?_)
 refine sq (rg (wY (ya z) z (nl (th (sq (sq (rg ?_)))))))
 obtain ⟨cZ, bB, h⟩ := bnd h
 refine WL.call (vals := []) kok14 z z (c_law31_awake bB) ?_
 rintro cQ bC ⟨rfl, bD⟩
 obtain ⟨bt, cm, cn, c⟩ := adoptE (Lg.O0 A) (fun k => 1) bD
 refine wY (Y.not z) z (nl (th ?_))
 rcases cnd h with ⟨ad, h⟩ | ⟨ad, h⟩
 ·refine WC.condT' z ad (sq (rg (wY (ya z) z (nl (th (rt (At.thenR ?_)))))))
  obtain rfl := some1 h
  have bE : Stp [] (Lg.O0 A) w bt bC := (su_ c z)
  exact At.res (.inl z) z (.tmp z .nil) ⟨z, (se_ bE z z)⟩
 ·refine WC.condF' z ad (sk (th (sq (sq (rg (wY (ym z) z ?_))))))
  have av := bA.i c z z
  obtain ⟨am, bG, h⟩ := bnd h
  refine WL.call (vals := [v0, vi 20]) kok7 z z (c_ref12_Some (A := fun _ => True) (Sl.all av) bG) ?_
  rintro cR ae ⟨rfl, bH⟩
  obtain ⟨ax, co, cq, d⟩ := adoptE bt (fun k => 1) bH
  refine wY (Y.not z) z (wY (ym z) z ?_)
  refine WL.cut 4 (σ := Unit) (fun _ w' => ae = w') (fun _ => [(0, v0), (1, v1), (25, vB ((!am) || (decide (2000 < (a1.length : Int)))))]) ?_ ?_
  ·refine WL.part 21 z (fun af => ?_) (fun af => ?_)
   ·refine WL.gS z z z z (WL.gS z z z z (WL.gS z z z z (wY (Y.pick (b := true) z z) z (WL.ren (v' := vB ((!am) || (decide (2000 < (a1.length : Int))))) 25 z (congrArg vB (orT af)) ?_))))
    exact nl (At.join () z (.cons z (.cons z (.cons z .nil))))
   ·refine ug z z (wY (ym z) z (ug z z ?_))
    have bJ := (au.i c z z).i d z z
    refine wY (Y.len ty45 z bJ) z (ug z z (wY (Y.gtr_i z z) z (wY (Y.pick (b := false) z z) z (WL.ren (v' := vB ((!am) || (decide (2000 < (a1.length : Int))))) 25 z (congrArg vB (orF af)) ?_))))
    exact nl (At.join () z (.cons z (.cons z (.cons z .nil))))
  ·rintro _ _ rfl
   refine (show WL _ _ _ _ _ [(0, v0), (1, v1), (25, vB ((!am) || (decide (2000 < (a1.length : Int)))))] _ from ?_)
   refine nl (th ?_)
   rcases cnd h with ⟨ah, h⟩ | ⟨ah, h⟩
   ·refine WC.condT' z ah (sq (rg (wY (ya z) z (nl (th (rt (At.thenR ?_)))))))
    obtain rfl := some1 h
    have bK : Stp [] (Lg.O0 A) w ax ae := (tr_ (su_ c z) (su_ d z))
    exact At.res (.inl z) z (.tmp z .nil) ⟨z, (se_ bK z z)⟩
   ·refine WC.condF' z ah (sk (th (sq ?_)))
    obtain ⟨cr, h, ay⟩ := flow1 h
    refine WC.join (σ := Own) (fun x w' => cr = .go () ∧ Stp [11, 1001] ax ae x w') (fun x => [(1, v1)]) ?_ ?_
    ·refine sq (rg (wY (ym z) z ?_))
     have az := av.i d z z
     obtain ⟨⟨bu, c0⟩, bL, h⟩ := bnd h
     refine WL.call (vals := [v0]) kok15 z z (c_otlp_Encode (A := fun _ => True) (Sl.all az) bL) ?_
     rintro cS bM ⟨t, rfl, bO, cs⟩
     obtain ⟨aA, ct, aC, l⟩ := adoptE ax (fun k => if ob t = some k then 11 else 1) bO
     have aD : OwnSl 11 Rep.b 5 aA bM t bu := RowF.adopt 11 Flat.b cs aC (fun k hk => if_pos hk)
     refine wY (ym z) z (wY (yx z z) z (wY (yx z z) z (wY (ya z) z (wY (ya z) z (nl (th (sq (rg (wY (ym z) z ?_)))))))))
     refine wY (Y.eql_i z z) z (nl (th ?_))
     rcases cnd h with ⟨ai, h⟩ | ⟨ai, h⟩
     ·refine WC.condT' z ai (sq (rg (wY (ym z) z ?_)))
      obtain ⟨⟨cu, C⟩, bP, h⟩ := bnd h
      refine WL.call (vals := [t]) kok16 z z (c_otlp_Decode (A := fun _ => True) (aD.src.sl) bP) ?_
      rintro cT D ⟨j, rfl, bQ, cv⟩
      obtain ⟨an, cw, aE, m⟩ := adoptE aA (fun k => 1) bQ
      have bR : Sl rep_api_Point D (frs an) j cu := Sl.adoptF cv (fun k hk => ⟨hk, z⟩) aE
      refine wY (ym z) z (wY (yx z z) z (wY (yx z z) z (wY (ya z) z (wY (ya z) z (nl (th (sq (sq (rg ?_)))))))))
      refine wY (ya z) z (nl (th ?_))
      obtain ⟨cx, h, bS⟩ := bnd h
      refine WC.join (σ := Own) (fun x w' => () = cx ∧ Stp [11, 1001] an D x w') (fun x => [(0, v0), (1, v1), (7, j), (8, vi C)]) ?_ ?_
      ·refine WC.block ?_
       obtain ⟨bw, h, bT⟩ := flow1 h
       obtain ⟨bx, h⟩ := loop_some h
       refine WC.joinB 0 (σ := Own) (fun x w' => bw = .go () ∧ Stp [11, 1001] an D x w') (fun x => [(0, v0), (1, v1), (7, j), (8, vi C)]) ?_ ?_
       ·have bU := aD.st m z z z
        obtain ⟨cy, aO, bW⟩ := OwnSl.rlb 1001 rfl bU
        refine WC.loop (σ := (List UInt8 × Int × Own)) (fun x k w' => loopN k (law31_OtlpBack_lp1) (x.1, x.2.1) = some bw ∧ Stp [11, 1001] an D x.2.2 w' ∧ OwnSl 1001 Rep.b 5 x.2.2 w' t x.1) (fun x => [(0, v0), (1, v1), (5, t), (7, j), (8, vi C), (9, vi x.2.1)]) (bu, 0, cy) bx (.cons z (.cons z (.cons z (.cons z (.cons z (.cons z .nil)))))) ⟨h, (su_ aO z), bW⟩ ?_
        rintro ⟨c1, cz, bz⟩ bx cU ⟨h, E, p⟩
        obtain ⟨cA, c2, rfl, h, aF⟩ := rnd1 h
        unfold law31_OtlpBack_lp1 at h
        try dsimp only at h E p
        refine (show WC _ _ _ _ [(0, v0), (1, v1), (5, t), (7, j), (8, vi C), (9, vi cz)] _ from ?_)
        refine sq (sq (rg (wY (ym z) z (wY (ym z) z (wY (Y.len ty45 z p.src.sl) z (wY (Y.lss_i z z) z (nl (th ?_))))))))
        rcases cnd h with ⟨aj, h⟩ | ⟨aj, h⟩
        ·refine WC.condT' z aj (sk (th (sq (WC.block (rg (wY (ym z) z (wY (ym z) z ?_)))))))
         obtain ⟨cC, bX, h⟩ := bnd h
         obtain ⟨c3, cD, cH, F, aP, aQ, G, aG⟩ := OwnSl.at p bX
         obtain rfl := aG
         replace G : CellsAt _ _ _ [vb cC] := G
         have cE := CAt.own p F G
         refine wY (Y.indexAddr ty45 ty5 z F z aP aQ) z ?_
         obtain ⟨aR, aH, h⟩ := bnd h
         refine WL.storeOwn (by decide) ty5 z z z p F aH ?_
         intro cI aI aS
         refine nl (At.inBlock (th (rg (wY (ym z) z (wY (Y.add_i z z) z ?_)))))
         obtain ⟨bY, aT, h⟩ := lt1 h
         refine WL.yE (ya z) (congrArg vi aT.symm) z (nl ?_)
         exact At.round (aR, bY, bz) cA (Nat.lt_succ_self _) ⟨next1 h aF, (tr_ (su_ E z) (su_ aI z)), aS⟩ (.cons z (.cons z (.cons z (.cons z (.cons z (.cons z .nil))))))
        ·refine WC.condF' z aj (WC.exit (At.thenX (At.loopX ?_)))
         exact At.hitB (σ := Own) bz ⟨brk1 h aF, (su_ E z)⟩ (.cons z (.cons z (.cons z (.cons z .nil))))
       ·rintro cF cV ⟨rfl, aU⟩
        replace h := flowK_go bT
        refine (show At _ _ _ [(0, v0), (1, v1), (7, j), (8, vi C)] _ from ?_)
        refine At.inBlockHit ?_
        exact At.join (σ := Own) cF ⟨some1 h, (su_ aU z)⟩ (.cons z (.cons z (.cons z (.cons z .nil))))
      ·rintro aJ bZ ⟨rfl, o⟩
       replace h := bS
       refine (show At _ _ _ [(0, v0), (1, v1), (7, j), (8, vi C)] _ from ?_)
       refine th (sq (rg (wY (ym z) z (wY (Y.neq_i z z) z (wY (ym z) z ?_)))))
       obtain ⟨b0, h, aW⟩ := bnd h
       refine WL.cut 5 (σ := (Bool × Own)) (fun x w' => x.1 = b0 ∧ Stp [] aJ bZ x.2 w') (fun x => [(1, v1), (54, vB x.1)]) ?_ ?_
       ·rcases cnd h with ⟨H, h⟩ | ⟨H, h⟩
        ·refine WL.ren 49 z (congrArg vB H) (WL.gS z z z z (WL.gS z z z z (WL.gS z z z z (WL.gS z z z z (wY (Y.pick (b := true) z z) z ?_)))))
         exact nl (At.join (σ := (Bool × Own)) (true, aJ) ⟨some1 h, (sr_ _ _ _)⟩ (.cons z (.cons z .nil)))
        ·refine WL.ren 49 z (congrArg vB H) (ug z z (wY (ym z) z (ug z z (wY (ym z) z (ug z z ?_)))))
         have aZ := ((az.i l z z).i m z z).i o z z
         have a2 := bR.f o z
         obtain ⟨b1, a3, h⟩ := bnd h
         refine WL.call (vals := [v0, j]) kok9 z z (c_ref12_SameAll (A := fun _ => True) (Sl.all aZ) (Sl.all a2) a3) ?_
         rintro cJ cK ⟨rfl, a4⟩
         obtain ⟨b2, cf, cg, aK⟩ := adoptE aJ (fun k => 1) a4
         refine ug z z (wY (Y.not z) z (wY (Y.pick (b := false) z z) z ?_))
         exact nl (At.join (σ := (Bool × Own)) ((!b1), b2) ⟨some1 h, (su_ aK z)⟩ (.cons z (.cons z .nil)))
       ·rintro ⟨b3, aL⟩ a5 ⟨rfl, q⟩
        replace h := aW
        try dsimp only at h q
        refine (show WL _ _ _ _ _ [(1, v1), (54, vB b3)] _ from ?_)
        refine nl (th ?_)
        rcases cnd h with ⟨I, h⟩ | ⟨I, h⟩
        ·refine WC.condT' z I (sq (rg (wY (ya z) z (nl (th (rt ?_))))))
         have h := outs1 h ay
         refine At.joinR (At.thenR ?_)
         obtain rfl := some1 h
         have a6 : Stp [11, 1001] (Lg.O0 A) w aL a5 := (tr_ (su_ c z) (tr_ (su_ d z) (tr_ (su_ l z) (tr_ (su_ m z) (tr_ (su_ o z) (su_ q z))))))
         exact At.res (.inl z) z (.tmp z .nil) ⟨z, (se_ a6 z z)⟩
        ·refine WC.condF' z I (sk ?_)
         exact At.join (σ := Own) aL ⟨go2 h, (tr_ (su_ l z) (tr_ (su_ m z) (tr_ (su_ o z) (su_ q z))))⟩ (.cons z .nil)
     ·refine WC.condF' z ai (sk ?_)
      exact At.join (σ := Own) aA ⟨go2 h, (su_ l z)⟩ (.cons z .nil)
    ·rintro cG cW ⟨rfl, J⟩
     replace h := flowK_go ay
     refine (show At _ _ _ [(1, v1)] _ from ?_)
     refine th (sq (rg (wY (ym z) z ?_)))
     have a9 := ((au.i c z z).i d z z).i J z z
     obtain ⟨⟨b4, cX⟩, ba, h⟩ := bnd h
     refine WL.call (vals := [v1]) kok16 z z (c_otlp_Decode (A := fun _ => True) (Sl.all a9) ba) ?_
     rintro cL ao ⟨r, rfl, bb, b5⟩
     obtain ⟨ak, ch, ap, Z⟩ := adoptE cG (fun k => 1) bb
     have K : Sl rep_api_Point ao (frs ak) r b4 := Sl.adoptF b5 (fun k hk => ⟨hk, z⟩) ap
     refine wY (ym z) z (wY (yx z z) z (wY (yx z z) z (wY (ya z) z (wY (ya z) z (nl (th (sq (sq (rg ?_)))))))))
     refine wY (ym z) z (wY (Y.neq_i z z) z (nl (th ?_)))
     rcases cnd h with ⟨M, h⟩ | ⟨M, h⟩
     ·refine WC.condT' z M (sq (rg (wY (ym z) z (wY (Y.len ty22 z K) z (wY (Y.eql_i z z) z ?_)))))
      obtain ⟨cY, bc, h⟩ := lt1 h
      refine WL.yE (ya z) (congrArg vB bc.symm) z (nl (th (rt (At.thenR ?_))))
      obtain rfl := some1 h
      have bd : Stp [11, 1001] (Lg.O0 A) w ak ao := (tr_ (su_ c z) (tr_ (su_ d z) (tr_ (su_ J z) (su_ Z z))))
      exact At.res (.inl z) z (.tmp z .nil) ⟨z, (se_ bd z z)⟩
     ·refine WC.condF' z M (sk (th (sq (rg (wY (ym z) z ?_)))))
      obtain ⟨⟨b6, P⟩, bf, h⟩ := bnd h
      refine WL.call (vals := [r]) kok15 z z (c_otlp_Encode (A := fun _ => True) (Sl.all K) bf) ?_
      rintro cM bg ⟨al, rfl, bh, b7⟩
      obtain ⟨aM, ci, aq, aa⟩ := adoptE ak (fun k => if ob al = some k then 12 else 1) bh
      have bi : OwnSl 12 Rep.b 5 aM bg al b6 := RowF.adopt 12 Flat.b b7 aq (fun k hk => if_pos hk)
      refine wY (ym z) z (wY (yx z z) z (wY (yx z z) z (wY (ya z) z (wY (ya z) z (nl (th (sq (rg (wY (ym z) z ?_)))))))))
      obtain ⟨⟨b8, Q⟩, bj, h⟩ := bnd h
      refine WL.call (vals := [al]) kok16 z z (c_otlp_Decode (A := fun _ => True) (bi.src.sl) bj) ?_
      rintro cN S ⟨T, rfl, bk, b9⟩
      obtain ⟨U, cj, ar, ab⟩ := adoptE aM (fun k => 1) bk
      have bl : Sl rep_api_Point S (frs U) T b8 := Sl.adoptF b9 (fun k hk => ⟨hk, z⟩) ar
      refine wY (ym z) z (wY (yx z z) z (wY (yx z z) z (wY (ya z) z (wY (ya z) z (nl (th (sq (rg (wY (ym z) z ?_)))))))))
      refine wY (Y.eql_i z z) z (wY (ym z) z ?_)
      refine WL.cut 3 (σ := Unit) (fun _ w' => S = w') (fun _ => [(10, r), (14, T), (80, vB ((decide (P = 0)) && (decide (Q = 0))))]) ?_ ?_
      ·refine WL.part 77 z (fun W => ?_) (fun W => ?_)
       ·refine ug z z (wY (ym z) z (ug z z (wY (Y.eql_i z z) z (wY (Y.pick (b := true) z z) z (WL.ren (v' := vB ((decide (P = 0)) && (decide (Q = 0)))) 80 z (congrArg vB (andT W)) ?_)))))
        exact nl (At.join () z (.cons z (.cons z (.cons z .nil))))
       ·refine WL.gS z z z z (WL.gS z z z z (wY (Y.pick (b := false) z z) z (WL.ren (v' := vB ((decide (P = 0)) && (decide (Q = 0)))) 80 z (congrArg vB (andF W)) ?_)))
        exact nl (At.join () z (.cons z (.cons z (.cons z .nil))))
      ·rintro _ _ rfl
       refine (show WL _ _ _ _ _ [(10, r), (14, T), (80, vB ((decide (P = 0)) && (decide (Q = 0))))] _ from ?_)
       refine wY (ym z) z ?_
       obtain ⟨ca, h, bm⟩ := bnd h
       refine WL.cut 4 (σ := (Bool × Own)) (fun x w' => x.1 = ca ∧ Stp [] U S x.2 w') (fun x => [(85, vB x.1)]) ?_ ?_
       ·rcases cnd h with ⟨X, h⟩ | ⟨X, h⟩
        ·refine WL.ren 81 z (congrArg vB X) (ug z z (wY (ym z) z (ug z z (wY (ym z) z (ug z z ?_)))))
         have bo := (K.f aa z).f ab z
         obtain ⟨cb, bp, h⟩ := bnd h
         refine WL.call (vals := [r, T]) kok9 z z (c_ref12_SameAll (A := fun _ => True) (Sl.all bo) (Sl.all bl) bp) ?_
         rintro cO cP ⟨rfl, bq⟩
         obtain ⟨cc, ck, cl, aN⟩ := adoptE U (fun k => 1) bq
         refine wY (Y.pick (b := true) z z) z ?_
         exact nl (At.join (σ := (Bool × Own)) (cb, cc) ⟨some1 h, (su_ aN z)⟩ (.cons z .nil))
        ·refine WL.ren 81 z (congrArg vB X) (WL.gS z z z z (WL.gS z z z z (WL.gS z z z z (wY (Y.pick (b := false) z z) z ?_))))
         exact nl (At.join (σ := (Bool × Own)) (false, U) ⟨some1 h, (sr_ _ _ _)⟩ (.cons z .nil))
       ·rintro ⟨cd, ce⟩ br ⟨rfl, ac⟩
        replace h := bm
        try dsimp only at h ac
        refine (show WL _ _ _ _ _ [(85, vB cd)] _ from ?_)
        refine wY (ya z) z (nl (th (rt ?_)))
        obtain rfl := some1 h
        have bs : Stp [11, 1001] (Lg.O0 A) w ce br := (tr_ (su_ c z) (tr_ (su_ d z) (tr_ (su_ J z) (tr_ (su_ Z z) (tr_ (su_ aa z) (tr_ (su_ ab z) (su_ ac z)))))))
        exact At.res (.inl z) z (.tmp z .nil) ⟨z, (se_ bs z z)⟩
end Go.Lg
