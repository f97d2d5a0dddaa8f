/- The walks of RelabelChecks and of what it calls, printed by gen.py. -/
import Derived.Test.YtihlealbhlgikaaDoorRcLgReWRelabelChecksx1
set_option linter.unusedVariables false
namespace Go.Lg
open Go Go.Proofs
set_option maxRecDepth 100000
set_option maxHeartbeats 4000000
theorem c_label_Sorted {A : Nat → Prop} {a0 : List api_Pair} {v0 : Value} {w : World} (hs0 : Sl rep_api_Pair w A v0 a0) {r0 : List api_Pair} (h : label_Sorted a0 = some r0) : Rets Tryd.prog 33 [v0] w (fun v w' => ∃ (u0 : Value), v = u0 ∧ Ext w w' ∧ RowF rep_api_Pair 59 w w' u0 r0) := by
 unfold label_Sorted at h
 refine Rets.enter Tryd.func33 z z ?_
 have fA : Sl rep_api_Pair w (imm (Lg.O0 A)) v0 a0 := (Sl.start hs0)
 refine (show WC _ _ _ _ [(0, v0)] _ from ?_)
 refine sq (rg (wY (ya z) z (nl (th (sq (rg (wY (ym z) z ?_)))))))
 obtain ⟨c, fB, h⟩ := bnd h
 refine WL.call (vals := [v0]) kok43 z z (c_slices_Clone_api_Pair_api_Pair (A := fun _ => True) (Sl.all fA) fB) ?_
 rintro a ac ⟨_, rfl, fC, gZ⟩
 obtain ⟨ar, g0, ce, dA⟩ := adoptE (Lg.O0 A) (fun k => if ob a = some k then 11 else 1) fC
 have cf : OwnSl 11 rep_api_Pair 59 ar ac a c := RowF.adopt 11 flat_api_Pair gZ ce (fun k hk => if_pos hk)
 refine wY (ya z) z (nl (th (sq (rg (wY (ym z) z ?_)))))
 obtain ⟨g1, h, fD⟩ := bnd h
 refine WL.callJ (vals := [a, Value.func (.func 59) (List.toArray []) (List.toArray [])]) (σ := (List api_Pair × Own)) (fun x w' => x.1 = g1 ∧ Stp [11, 1001, 1002, 1003, 1004, 1005, 1006, 1007, 1008, 1009, 1010, 1011, 1012, 1013, 1014, 1015, 1016] ar ac x.2 w' ∧ OwnSl 1018 rep_api_Pair 59 x.2 w' a x.1) (fun x => tp []) kok58 z z ?_ ?_
 ·refine Rets.enter Tryd.func58 z z ?_
  refine (show WC _ _ _ _ [(0, a), (1, Value.func (.func 59) (List.toArray []) (List.toArray []))] _ from ?_)
  refine rg (wY (ym z) z (wY (ym z) z (wY (Y.len ty33 z cf.src.sl) z (wY (ym z) z ?_))))
  obtain ⟨g2, h, fF⟩ := bnd h
  refine WL.callJ (vals := [a, vi (c.length : Int), Value.func (.func 59) (List.toArray []) (List.toArray [])]) (σ := (List api_Pair × Own)) (fun x w' => x.1 = g2 ∧ Stp [11, 1001, 1002, 1003, 1004, 1005, 1006, 1007, 1008, 1009, 1010, 1011, 1012, 1013, 1014, 1015] ar ac x.2 w' ∧ OwnSl 1016 rep_api_Pair 59 x.2 w' a x.1) (fun x => tp []) kok87 z z ?_ ?_
  ·refine Rets.enter Tryd.func87 z z ?_
   refine (show WC _ _ _ _ [(0, a), (1, vi (c.length : Int)), (2, Value.func (.func 59) (List.toArray []) (List.toArray []))] _ from ?_)
   refine sq (rg (wY (ya z) z (nl (th (sq (rg (wY (ym z) z (wY (ya z) z (wY (ya z) z ?_)))))))))
   refine nl (th (sq ?_))
   obtain ⟨g3, h, fG⟩ := bnd h
   refine WC.join (σ := (List api_Pair × Int × Own)) (fun x w' => (x.1, x.2.1) = g3 ∧ Stp [11, 1001, 1002, 1003, 1004, 1005, 1006, 1007, 1008] ar ac x.2.2 w' ∧ OwnSl 1009 rep_api_Pair 59 x.2.2 w' a x.1) (fun x => [(0, a), (1, vi (c.length : Int)), (2, Value.func (.func 59) (List.toArray []) (List.toArray [])), (6, vi 20), (7, vi x.2.1)]) ?_ ?_
   ·refine WC.block ?_
    obtain ⟨fu, h, fH⟩ := flow1 h
    obtain ⟨fw, h⟩ := loop_some h
    refine WC.joinB 0 (σ := (List api_Pair × Int × Own)) (fun x w' => fu = .go (x.1, x.2.1) ∧ Stp [11, 1001, 1002, 1003, 1004, 1005, 1006, 1007] ar ac x.2.2 w' ∧ OwnSl 1008 rep_api_Pair 59 x.2.2 w' a x.1) (fun x => [(0, a), (1, vi (c.length : Int)), (2, Value.func (.func 59) (List.toArray []) (List.toArray [])), (6, vi 20), (7, vi x.2.1)]) ?_ ?_
    ·obtain ⟨g4, dB, fI⟩ := OwnSl.rlb 1007 rfl cf
     refine WC.loop (σ := (List api_Pair × Int × Int × Own)) (fun x k w' => loopN k (label_Sorted_lp1 c) (x.1, x.2.1, x.2.2.1) = some fu ∧ Stp [11, 1001, 1002, 1003, 1004, 1005, 1006, 1007] ar ac x.2.2.2 w' ∧ OwnSl 1007 rep_api_Pair 59 x.2.2.2 w' a x.1) (fun x => [(0, a), (1, vi (c.length : Int)), (2, Value.func (.func 59) (List.toArray []) (List.toArray [])), (6, vi 20), (7, vi x.2.1), (8, vi x.2.2.1)]) (c, 0, 20, g4) fw (.cons z (.cons z (.cons z (.cons z (.cons z (.cons z .nil)))))) ⟨h, (su_ dB z), fI⟩ ?_
     rintro ⟨a2, m, o, cg⟩ fw bn ⟨h, av, bo⟩
     obtain ⟨g5, iU, rfl, h, ch⟩ := rnd1 h
     unfold label_Sorted_lp1 at h
     try dsimp only at h av bo
     refine (show WC _ _ _ _ [(0, a), (1, vi (c.length : Int)), (2, Value.func (.func 59) (List.toArray []) (List.toArray [])), (6, vi 20), (7, vi m), (8, vi o)] _ from ?_)
     refine sq (sq (rg (wY (ym z) z (wY (ym z) z (wY (Y.leq_i z z) z (nl (th ?_)))))))
     rcases cnd h with ⟨bp, h⟩ | ⟨bp, h⟩
     ·refine WC.condT' z bp (sk (th (WC.block (sq (rg (wY (ym z) z (wY (ym z) z (wY (ym z) z (wY (ym z) z ?_)))))))))
      obtain ⟨g6, h, fJ⟩ := bnd h
      refine WL.callJ (vals := [a, vi m, vi o, Value.func (.func 59) (List.toArray []) (List.toArray [])]) (σ := (List api_Pair × Own)) (fun x w' => x.1 = g6 ∧ Stp [1001, 1002, 1003, 1004, 1005, 1007] cg bn x.2 w' ∧ OwnSl 1006 rep_api_Pair 59 x.2 w' a x.1) (fun x => tp []) kok100 z z ?_ ?_
      ·refine Rets.enter Tryd.func100 z z ?_
       refine (show WC _ _ _ _ [(0, a), (1, vi m), (2, vi o), (3, Value.func (.func 59) (List.toArray []) (List.toArray []))] _ from ?_)
       refine sq (rg (wY (ym z) z (wY (Y.add_i z z) z ?_)))
       obtain ⟨g7, fK, h⟩ := lt1 h
       refine WL.yE (ya z) (congrArg vi fK.symm) z (nl (th (WC.block ?_)))
       obtain ⟨fx, h, fL⟩ := flow1 h
       obtain ⟨fy, h⟩ := loop_some h
       refine WC.joinB 0 (σ := (List api_Pair × Own)) (fun x w' => fx = .go x.1 ∧ Stp [1001, 1002, 1003, 1004, 1007] cg bn x.2 w' ∧ OwnSl 1005 rep_api_Pair 59 x.2 w' a x.1) (fun x => []) ?_ ?_
       ·obtain ⟨g8, ci, dC⟩ := OwnSl.rlb 1004 rfl bo
        refine WC.loop (σ := (List api_Pair × Int × Own)) (fun x k w' => loopN k (label_Sorted_lp2 m o) (x.1, x.2.1) = some fx ∧ Stp [1001, 1002, 1003, 1004, 1007] cg bn x.2.2 w' ∧ OwnSl 1004 rep_api_Pair 59 x.2.2 w' a x.1) (fun x => [(0, a), (1, vi m), (2, vi o), (3, Value.func (.func 59) (List.toArray []) (List.toArray [])), (8, vi x.2.1)]) (a2, g7, g8) fy (.cons z (.cons z (.cons z (.cons z (.cons z .nil))))) ⟨h, (su_ ci z), dC⟩ ?_
        rintro ⟨a3, T, cj⟩ fy bq ⟨h, ax, br⟩
        obtain ⟨fN, ie, rfl, h, bz⟩ := rnd1 h
        unfold label_Sorted_lp2 at h
        try dsimp only at h ax br
        refine (show WC _ _ _ _ [(0, a), (1, vi m), (2, vi o), (3, Value.func (.func 59) (List.toArray []) (List.toArray [])), (8, vi T)] _ from ?_)
        refine sq (sq (rg (wY (ym z) z (wY (ym z) z (wY (Y.lss_i z z) z (nl (th ?_)))))))
        rcases cnd h with ⟨ay, h⟩ | ⟨ay, h⟩
        ·refine WC.condT' z ay (sk (th (sq (WC.block (sq (rg (wY (ym z) z (wY (ya z) z (nl ?_)))))))))
         refine th ?_
         obtain ⟨fO, h, dD⟩ := bnd h
         refine WC.join (σ := (List api_Pair × Own)) (fun x w' => x.1 = fO ∧ Stp [1001, 1002, 1004] cj bq x.2 w' ∧ OwnSl 1003 rep_api_Pair 59 x.2 w' a x.1) (fun x => [(0, a), (1, vi m), (2, vi o), (3, Value.func (.func 59) (List.toArray []) (List.toArray [])), (8, vi T)]) ?_ ?_
         ·refine WC.block ?_
          obtain ⟨ck, h, dE⟩ := flow1 h
          obtain ⟨cl, h⟩ := loop_some h
          refine WC.joinB 2 (σ := (List api_Pair × Own)) (fun x w' => ck = .go x.1 ∧ Stp [1001, 1004] cj bq x.2 w' ∧ OwnSl 1002 rep_api_Pair 59 x.2 w' a x.1) (fun x => [(0, a), (1, vi m), (2, vi o), (3, Value.func (.func 59) (List.toArray []) (List.toArray [])), (8, vi T)]) ?_ ?_
          ·obtain ⟨fP, cm, dF⟩ := OwnSl.rlb 1001 rfl br
           refine WC.loop (σ := (List api_Pair × Int × Own)) (fun x k w' => loopN k (label_Sorted_lp3 m) (x.1, x.2.1) = some ck ∧ Stp [1001, 1004] cj bq x.2.2 w' ∧ OwnSl 1001 rep_api_Pair 59 x.2.2 w' a x.1) (fun x => [(0, a), (1, vi m), (2, vi o), (3, Value.func (.func 59) (List.toArray []) (List.toArray [])), (8, vi T), (9, vi x.2.1)]) (a3, T, fP) cl (.cons z (.cons z (.cons z (.cons z (.cons z (.cons z .nil)))))) ⟨h, (su_ cm z), dF⟩ ?_
           rintro ⟨b7, r, aj⟩ cl hw ⟨h, ak, ae⟩
           obtain ⟨fQ, ig, rfl, h, bA⟩ := rnd1 h
           unfold label_Sorted_lp3 at h
           try dsimp only at h ak ae
           refine (show WC _ _ _ _ [(0, a), (1, vi m), (2, vi o), (3, Value.func (.func 59) (List.toArray []) (List.toArray [])), (8, vi T), (9, vi r)] _ from ?_)
           refine sq (sq (WC.drawH [] [0, 1, 2, 3, 4, 5, 6, 7, 8, 9, 10, 11, 12, 13, 14, 15, 16] aj 17 fmix z (by kernel_rfl) ?_))
           intro bB U
           refine WD.y 0 z (by kernel_rfl) (fun _ _ _ => ym z) z (WD.y 1 z (by kernel_rfl) (fun _ _ _ => ym z) z (WD.y 2 z (by kernel_rfl) (fun _ _ _ => Y.gtr_i z z) z (WD.y 3 z (by kernel_rfl) (fun _ _ _ => ym z) z ?_)))
           obtain ⟨fR, h, dG⟩ := bnd h
           refine WD.join (σ := (Bool × Own)) (f' := 0) [16, 15, 14, 13, 12, 11, 10, 9, 8, 7, 6, 5, 4, 3, 2, 1, 0] (fun x O' w' => x.1 = fR ∧ Stp [] aj bB x.2 w' ∧ x.2 = O') (fun x => [(0, a), (1, vi m), (2, vi o), (3, Value.func (.func 59) (List.toArray []) (List.toArray [])), (8, vi T), (9, vi r), (34, vB x.1)]) (fun bC => ?_) ?_
           ·rcases cnd h with ⟨aa, h⟩ | ⟨aa, h⟩
            ·refine WD.ren 21 z (congrArg vB aa) (WD.gT 4 z (by kernel_rfl) z z (fun _ _ _ => ym z) z (WD.gT 5 z (by kernel_rfl) z z (fun _ _ _ => ym z) z (WD.gT 6 z (by kernel_rfl) z z (fun _ _ _ => ym z) z ?_)))
             obtain ⟨t, dH, h⟩ := bnd h
             have af := ae.st U z z z
             obtain ⟨ih, g9, hx, bD, dI, dJ, az, cn⟩ := OwnSl.at af dH
             obtain ⟨_, _, rfl, rfl, rfl⟩ := cn
             replace az : CellsAt _ _ _ [vs t.Key, vs t.Val] := az
             have co := CAt.own af bD az
             refine WD.gT 7 z (by kernel_rfl) z z (fun _ _ _ => Y.indexAddr ty33 ty59 z bD z dI dJ) z (WD.gT 8 z (by kernel_rfl) z z (fun hy ii cq => have dK := co.st cq z; yL ty59 z z dK.at_ z) z (WD.gT 9 z (by kernel_rfl) z z (fun _ _ _ => ym z) z (WD.gT 10 z (by kernel_rfl) z z (fun _ _ _ => ym z) z (WD.gT 11 z (by kernel_rfl) z z (fun _ _ _ => Y.sub_i z z) z ?_))))
             obtain ⟨D, dL, h⟩ := bnd h
             obtain ⟨ij, ha, hz, bE, dM, dN, aA, cr⟩ := OwnSl.at af dL
             obtain ⟨_, _, rfl, rfl, rfl⟩ := cr
             replace aA : CellsAt _ _ _ [vs D.Key, vs D.Val] := aA
             have cs := CAt.own af bE aA
             refine WD.gT 12 z (by kernel_rfl) z z (fun _ _ _ => Y.indexAddr ty33 ty59 z bE z dM dN) z (WD.gT 13 z (by kernel_rfl) z z (fun hA ik ct => have dO := cs.st ct z; yL ty59 z z dO.at_ z) z (WD.heavy 14 z (by kernel_rfl) (ug z z ?_)))
             obtain ⟨fT, h, dP⟩ := bnd h
             refine WL.callV (fv := []) (cv := []) (vals := [ag [vs t.Key, vs t.Val], ag [vs D.Key, vs D.Val]]) (σ := (Int × Own)) (fun x w' => x.1 = fT ∧ Stp [] aj bB x.2 w') (fun x => vi x.1) kok59 z z z ?_ ?_
             ·refine Rets.enter Tryd.func59 z z ?_
              refine (show WC _ _ _ _ [(0, ag [vs t.Key, vs t.Val]), (1, ag [vs D.Key, vs D.Val])] _ from ?_)
              refine sq (rg (WL.box (O := aj) 12 [vs t.Key, vs t.Val] z z z ?_))
              intro il fU hC cu dQ
              refine WL.box (O := fU) 13 [vs D.Key, vs D.Val] z z z ?_
              intro im fV hD a4 dR
              refine wY (ya z) z (nl (th (sq (rg (wY (yf fo59_0 z) z ?_)))))
              have dS := dQ.st a4 z
              refine wY (yl ty9 z z (dS.cell 0 _ z)) z (wY (yf fo59_0 z) z (wY (yl ty9 z z (dR.cell 0 _ z)) z ?_))
              obtain ⟨fY, dT, h⟩ := bnd h
              refine WL.call (vals := [vs t.Key, vs D.Key]) kok60 z z (c_cmp_Compare_string dT) ?_
              rintro hE hF ⟨rfl, dU⟩
              obtain ⟨f0, gU, gV, cw⟩ := adoptE fV (fun k => 1) dU
              refine wY (ya z) z (nl (th (rt ?_)))
              exact At.res (.inl z) z (.tmp z .nil) ⟨(fY, f0), ⟨some1 h, (tr_ (su_ cu z) (tr_ (su_ a4 z) (su_ cw z)))⟩, z⟩
             ·rintro ⟨cx, f1⟩ hG ⟨rfl, al⟩
              replace h := dP
              try dsimp only at h al
              refine (show WL _ _ _ _ _ ((32, vi cx) :: _) _ from ?_)
              refine nl (At.dq (su_ al z) (WD.gT 15 z (by kernel_rfl) z z (fun _ _ _ => Y.lss_i z z) z (WD.y 16 z (by kernel_rfl) (fun _ _ _ => Y.pick (b := true) z z) z (WD.ren 21 z (congrArg vB aa.symm) ?_))))
              exact bC (decide (cx < 0), f1) _ _ _ ⟨some1 h, (su_ al z), z⟩ (.cons z (.cons z (.cons z (.cons z (.cons z (.cons z (.cons z .nil)))))))
            ·refine WD.ren 21 z (congrArg vB aa) (WD.gS 4 z (by kernel_rfl) z z z z (WD.gS 5 z (by kernel_rfl) z z z z (WD.gS 6 z (by kernel_rfl) z z z z (WD.gS 7 z (by kernel_rfl) z z z z (WD.gS 8 z (by kernel_rfl) z z z z (WD.gS 9 z (by kernel_rfl) z z z z (WD.gS 10 z (by kernel_rfl) z z z z (WD.gS 11 z (by kernel_rfl) z z z z (WD.gS 12 z (by kernel_rfl) z z z z ?_)))))))))
             refine WD.gS 13 z (by kernel_rfl) z z z z (WD.heavy 14 z (by kernel_rfl) (WL.gS z z z z (nl (At.dq (sr_ _ _ _) (WD.gS 15 z (by kernel_rfl) z z z z (WD.y 16 z (by kernel_rfl) (fun _ _ _ => Y.pick (b := false) z z) z (WD.ren 21 z (congrArg vB aa.symm) ?_)))))))
             exact bC (false, aj) _ _ _ ⟨some1 h, (sr_ _ _ _), z⟩ (.cons z (.cons z (.cons z (.cons z (.cons z (.cons z (.cons z .nil)))))))
           ·rintro ⟨f2, bs⟩ _ hH ⟨rfl, V, rfl⟩
            replace h := dG
            try dsimp only at h V
            refine (show WD _ _ _ _ _ _ _ _ [(0, a), (1, vi m), (2, vi o), (3, Value.func (.func 59) (List.toArray []) (List.toArray [])), (8, vi T), (9, vi r), (34, vB f2)] _ _ from ?_)
            refine WD.done_ (by kernel_rfl) (th ?_)
            rcases cnd h with ⟨aC, h⟩ | ⟨aC, h⟩
            ·refine WC.condT' z aC (sk (th (sq (WC.block (WC.drawH [1001] [0, 1, 2, 3, 4, 5, 6, 7, 8, 9, 10, 11, 12, 13, 14, 15, 16] bs 18 fmix z (by kernel_rfl) ?_)))))
             intro dV a5
             refine WD.y 0 z (by kernel_rfl) (fun _ _ _ => ym z) z (WD.y 1 z (by kernel_rfl) (fun _ _ _ => ym z) z (WD.y 2 z (by kernel_rfl) (fun _ _ _ => ym z) z (WD.y 3 z (by kernel_rfl) (fun _ _ _ => ym z) z (WD.y 4 z (by kernel_rfl) (fun _ _ _ => Y.sub_i z z) z (WD.y 5 z (by kernel_rfl) (fun _ _ _ => ym z) z (WD.y 6 z (by kernel_rfl) (fun _ _ _ => ym z) z (WD.y 7 z (by kernel_rfl) (fun _ _ _ => Y.sub_i z z) z ?_)))))))
             obtain ⟨F, dW, h⟩ := bnd h
             have G := ((ae.st U z z z).st V z z z).st a5 z z z
             obtain ⟨io, hc, hI, bF, dZ, d0, aD, cy⟩ := OwnSl.at G dW
             obtain ⟨_, _, rfl, rfl, rfl⟩ := cy
             replace aD : CellsAt _ _ _ [vs F.Key, vs F.Val] := aD
             have a6 := CAt.own G bF aD
             refine WD.y 8 z (by kernel_rfl) (fun _ _ _ => Y.indexAddr ty33 ty59 z bF z dZ d0) z (WD.y 10 z (by kernel_rfl) (fun _ _ _ => ym z) z (WD.y 11 z (by kernel_rfl) (fun _ _ _ => ym z) z ?_))
             obtain ⟨H, d1, h⟩ := bnd h
             obtain ⟨ip, he, hJ, bG, d2, d3, aE, cz⟩ := OwnSl.at G d1
             obtain ⟨_, _, rfl, rfl, rfl⟩ := cz
             replace aE : CellsAt _ _ _ [vs H.Key, vs H.Val] := aE
             have a7 := CAt.own G bG aE
             refine WD.y 12 z (by kernel_rfl) (fun _ _ _ => Y.indexAddr ty33 ty59 z bG z d2 d3) z ?_
             obtain ⟨f3, h, d4⟩ := bnd h
             refine WD.join (σ := Unit) (f' := 4) [13, 12, 11, 10, 9, 8, 7, 6, 5, 4, 3, 2, 1, 0] (fun x O' w' => () = f3 ∧ dV = w' ∧ bs = O') (fun x => [(0, a), (1, vi m), (2, vi o), (3, Value.func (.func 59) (List.toArray []) (List.toArray [])), (8, vi T), (9, vi r), (37, a), (38, vi r), (39, a), (41, vi (w64 (r - 1))), (46, ag [vs F.Key, vs F.Val]), (50, ag [vs H.Key, vs H.Val])]) (fun bH => ?_) ?_
             ·refine WD.heavy2 9 13 z z (by kernel_rfl) ?_ ?_
              ·refine wY (yL ty59 z z a6.at_ z) z (nl (At.dq (sr_ _ _ _) (WD.heavy 13 z (by kernel_rfl) (wY (yL ty59 z z a7.at_ z) z (nl (At.dq (sr_ _ _ _) (WD.perm _ [13, 12, 11, 10, 9, 8, 7, 6, 5, 4, 3, 2, 1, 0] (by kernel_rfl) ?_)))))))
               exact bH () _ _ _ ⟨z, z, z⟩ (.cons z (.cons z (.cons z (.cons z (.cons z (.cons z (.cons z (.cons z (.cons z (.cons z (.cons z (.cons z .nil))))))))))))
              ·try simp only [Option.bind_assoc] at h
               try simp only [Option.bind_some] at h
               refine wY (yL ty59 z z a7.at_ z) z (nl (At.dq (sr_ _ _ _) (WD.heavy 9 z (by kernel_rfl) (wY (yL ty59 z z a6.at_ z) z (nl (At.dq (sr_ _ _ _) (WD.perm _ [13, 12, 11, 10, 9, 8, 7, 6, 5, 4, 3, 2, 1, 0] (by kernel_rfl) ?_)))))))
               exact bH () _ _ _ ⟨z, z, z⟩ (.cons z (.cons z (.cons z (.cons z (.cons z (.cons z (.cons z (.cons z (.cons z (.cons z (.cons z (.cons z .nil))))))))))))
             ·rintro _ _ _ ⟨rfl, rfl, rfl⟩
              replace h := d4
              refine (show WD _ _ _ _ _ _ _ _ [(0, a), (1, vi m), (2, vi o), (3, Value.func (.func 59) (List.toArray []) (List.toArray [])), (8, vi T), (9, vi r), (37, a), (38, vi r), (39, a), (41, vi (w64 (r - 1))), (46, ag [vs F.Key, vs F.Val]), (50, ag [vs H.Key, vs H.Val])] _ _ from ?_)
              obtain ⟨cA, d5, h⟩ := bnd h
              obtain ⟨iq, hf, hK, aF, d6, d7, aG, cC⟩ := OwnSl.at G d5
              obtain ⟨_, _, rfl, rfl, rfl⟩ := cC
              replace aG : CellsAt _ _ _ [vs cA.Key, vs cA.Val] := aG
              have hg := CAt.own G aF aG
              refine WD.y 14 z (by kernel_rfl) (fun _ _ _ => Y.indexAddr ty33 ty59 z aF z d6 d7) z (WD.heavy 15 z (by kernel_rfl) ?_)
              obtain ⟨hL, cD, h⟩ := bnd h
              refine WL.storeOwn (R := rep_api_Pair) (u := F) (by decide) ty59 z z ⟨[vs F.Key], [vs F.Val], z, z, z⟩ G aF cD ?_
              intro hM a8 aH
              refine nl (At.dq (su_ a8 z) ?_)
              obtain ⟨cE, d8, h⟩ := bnd h
              obtain ⟨ir, hh, hN, aI, d9, ea, aJ, cF⟩ := OwnSl.at aH d8
              obtain ⟨_, _, rfl, rfl, rfl⟩ := cF
              replace aJ : CellsAt _ _ _ [vs cE.Key, vs cE.Val] := aJ
              have hi := CAt.own aH aI aJ
              refine WD.y 16 z (by kernel_rfl) (fun _ _ _ => Y.indexAddr ty33 ty59 z aI z d9 ea) z (WD.phase [1001] [0, 1, 2, 3, 4, 5, 6, 7, 8, 9, 10, 11, 12, 13, 14, 15, 16, 17] (by kernel_rfl) (by kernel_rfl) (WD.heavy 17 z (by kernel_rfl) ?_))
              obtain ⟨eb, cG, h⟩ := bnd h
              refine WL.storeOwn (R := rep_api_Pair) (u := H) (by decide) ty59 z z ⟨[vs H.Key], [vs H.Val], z, z, z⟩ aH aI cG ?_
              intro hO a9 ec
              refine nl (At.dq (su_ a9 z) (WD.done_ (by kernel_rfl) (At.inBlock (th (rg (wY (ym z) z (wY (Y.sub_i z z) z ?_)))))))
              obtain ⟨f4, ed, h⟩ := lt1 h
              refine WL.yE (ya z) (congrArg vi ed.symm) z (nl ?_)
              exact At.round (eb, f4, bs) fQ (Nat.lt_succ_self _) ⟨next1 h bA, (tr_ (su_ ak z) (tr_ (su_ U z) (tr_ (su_ V z) (tr_ (su_ a5 z) (tr_ (su_ a8 z) (su_ a9 z)))))), ec⟩ (.cons z (.cons z (.cons z (.cons z (.cons z (.cons z .nil))))))
            ·refine WC.condF' z aC (WC.exit (At.thenX (At.loopX ?_)))
             have ef := (ae.st U z z z).st V z z z
             obtain ⟨f5, cH, eg⟩ := OwnSl.rlb 1002 rfl ef
             exact At.hitB (σ := (List api_Pair × Own)) (b7, f5) ⟨brk1 h bA, (tr_ (su_ ak z) (tr_ (su_ U z) (tr_ (su_ V z) (su_ cH z)))), eg⟩ (.cons z (.cons z (.cons z (.cons z (.cons z .nil)))))
          ·rintro ⟨b8, it⟩ hP ⟨rfl, ba, bI⟩
           replace h := flowK_go dE
           try dsimp only at h ba bI
           refine (show At _ _ _ [(0, a), (1, vi m), (2, vi o), (3, Value.func (.func 59) (List.toArray []) (List.toArray [])), (8, vi T)] _ from ?_)
           refine At.inBlockHit ?_
           obtain ⟨f6, cI, eh⟩ := OwnSl.rlb 1003 rfl bI
           exact At.join (σ := (List api_Pair × Own)) (b8, f6) ⟨some1 h, (tr_ (su_ ba z) (su_ cI z)), eh⟩ (.cons z (.cons z (.cons z (.cons z (.cons z .nil)))))
         ·rintro ⟨b9, iu⟩ hQ ⟨rfl, bb, bJ⟩
          replace h := dD
          try dsimp only at h bb bJ
          refine (show At _ _ _ [(0, a), (1, vi m), (2, vi o), (3, Value.func (.func 59) (List.toArray []) (List.toArray [])), (8, vi T)] _ from ?_)
          refine At.inBlock (th (rg (wY (ym z) z (wY (Y.add_i z z) z ?_))))
          obtain ⟨f7, ei, h⟩ := lt1 h
          refine WL.yE (ya z) (congrArg vi ei.symm) z (nl ?_)
          obtain ⟨f8, cJ, ej⟩ := OwnSl.rlb 1004 rfl bJ
          exact At.round (b9, f7, f8) fN (Nat.lt_succ_self _) ⟨next1 h bz, (tr_ (su_ ax z) (tr_ (su_ bb z) (su_ cJ z))), ej⟩ (.cons z (.cons z (.cons z (.cons z (.cons z .nil)))))
        ·refine WC.condF' z ay (WC.exit (At.thenX (At.loopX ?_)))
         obtain ⟨f9, cK, ek⟩ := OwnSl.rlb 1005 rfl br
         exact At.hitB (σ := (List api_Pair × Own)) (a3, f9) ⟨brk1 h bz, (tr_ (su_ ax z) (su_ cK z)), ek⟩ .nil
       ·rintro ⟨hj, iV⟩ iv ⟨rfl, bK, cL⟩
        replace h := flowK_go fL
        try dsimp only at h bK cL
        refine (show At _ _ _ [] _ from ?_)
        refine At.inBlockHit ?_
        obtain ⟨ga, cM, em⟩ := OwnSl.rlb 1006 rfl cL
        exact At.res (.inr z) z .nil ⟨(hj, ga), ⟨some1 h, (tr_ (su_ bK z) (su_ cM z)), em⟩, z⟩
      ·rintro ⟨cN, iW⟩ iw ⟨rfl, bL, cO⟩
       replace h := fJ
       try dsimp only at h bL cO
       refine (show WL _ _ _ _ _ ((18, tp []) :: _) _ from ?_)
       refine nl (th (sq (rg (wY (ym z) z (wY (ya z) z (nl (th (rg (wY (ym z) z ?_)))))))))
       refine wY (ym z) z (wY (Y.add_i z z) z ?_)
       obtain ⟨gb, en, h⟩ := lt1 h
       refine WL.yE (ya z) (congrArg vi en.symm) z (nl (At.inBlock ?_))
       obtain ⟨gc, cP, eo⟩ := OwnSl.rlb 1007 rfl cO
       exact At.round (cN, o, gb, gc) g5 (Nat.lt_succ_self _) ⟨next1 h ch, (tr_ (su_ av z) (tr_ (su_ bL z) (su_ cP z))), eo⟩ (.cons z (.cons z (.cons z (.cons z (.cons z (.cons z .nil))))))
     ·refine WC.condF' z bp (WC.exit (At.thenX (At.loopX ?_)))
      obtain ⟨gd, cQ, ep⟩ := OwnSl.rlb 1008 rfl bo
      exact At.hitB (σ := (List api_Pair × Int × Own)) (a2, m, gd) ⟨brk1 h ch, (tr_ (su_ av z) (su_ cQ z)), ep⟩ (.cons z (.cons z (.cons z (.cons z (.cons z .nil)))))
    ·rintro ⟨cR, fz, iX⟩ iy ⟨rfl, bM, cS⟩
     replace h := flowK_go fH
     try dsimp only at h bM cS
     refine (show At _ _ _ [(0, a), (1, vi (c.length : Int)), (2, Value.func (.func 59) (List.toArray []) (List.toArray [])), (6, vi 20), (7, vi fz)] _ from ?_)
     refine At.inBlockHit ?_
     obtain ⟨ge, cT, er⟩ := OwnSl.rlb 1009 rfl cS
     exact At.join (σ := (List api_Pair × Int × Own)) (cR, fz, ge) ⟨some1 h, (tr_ (su_ bM z) (su_ cT z)), er⟩ (.cons z (.cons z (.cons z (.cons z (.cons z .nil)))))
   ·rintro ⟨cU, p, cV⟩ bt ⟨rfl, bO, cW⟩
    replace h := fG
    try dsimp only at h bO cW
    refine (show At _ _ _ [(0, a), (1, vi (c.length : Int)), (2, Value.func (.func 59) (List.toArray []) (List.toArray [])), (6, vi 20), (7, vi p)] _ from ?_)
    refine th (sq (rg (wY (ym z) z (wY (ym z) z (wY (ym z) z (wY (ym z) z ?_))))))
    obtain ⟨gf, h, es⟩ := bnd h
    refine WL.callJ (vals := [a, vi p, vi (c.length : Int), Value.func (.func 59) (List.toArray []) (List.toArray [])]) (σ := (List api_Pair × Own)) (fun x w' => x.1 = gf ∧ Stp [1009, 1010, 1011, 1012, 1013, 1014] cV bt x.2 w' ∧ OwnSl 1015 rep_api_Pair 59 x.2 w' a x.1) (fun x => tp []) kok100 z z ?_ ?_
    ·refine Rets.enter Tryd.func100 z z ?_
     refine (show WC _ _ _ _ [(0, a), (1, vi p), (2, vi (c.length : Int)), (3, Value.func (.func 59) (List.toArray []) (List.toArray []))] _ from ?_)
     refine sq (rg (wY (ym z) z (wY (Y.add_i z z) z ?_)))
     obtain ⟨gg, et, h⟩ := lt1 h
     refine WL.yE (ya z) (congrArg vi et.symm) z (nl (th (WC.block ?_)))
     obtain ⟨cX, h, eu⟩ := flow1 h
     obtain ⟨cY, h⟩ := loop_some h
     refine WC.joinB 0 (σ := (List api_Pair × Own)) (fun x w' => cX = .go x.1 ∧ Stp [1009, 1010, 1011, 1012, 1013] cV bt x.2 w' ∧ OwnSl 1014 rep_api_Pair 59 x.2 w' a x.1) (fun x => []) ?_ ?_
     ·obtain ⟨gh, cZ, ew⟩ := OwnSl.rlb 1013 rfl cW
      refine WC.loop (σ := (List api_Pair × Int × Own)) (fun x k w' => loopN k (label_Sorted_lp4 c p) (x.1, x.2.1) = some cX ∧ Stp [1009, 1010, 1011, 1012, 1013] cV bt x.2.2 w' ∧ OwnSl 1013 rep_api_Pair 59 x.2.2 w' a x.1) (fun x => [(0, a), (1, vi p), (2, vi (c.length : Int)), (3, Value.func (.func 59) (List.toArray []) (List.toArray [])), (8, vi x.2.1)]) (cU, gg, gh) cY (.cons z (.cons z (.cons z (.cons z (.cons z .nil))))) ⟨h, (su_ cZ z), ew⟩ ?_
      rintro ⟨au, q, bu⟩ cY aK ⟨h, am, aL⟩
      obtain ⟨gi, iz, rfl, h, bP⟩ := rnd1 h
      unfold label_Sorted_lp4 at h
      try dsimp only at h am aL
      refine (show WC _ _ _ _ [(0, a), (1, vi p), (2, vi (c.length : Int)), (3, Value.func (.func 59) (List.toArray []) (List.toArray [])), (8, vi q)] _ from ?_)
      refine sq (sq (rg (wY (ym z) z (wY (ym z) z (wY (Y.lss_i z z) z (nl (th ?_)))))))
      rcases cnd h with ⟨aM, h⟩ | ⟨aM, h⟩
      ·refine WC.condT' z aM (sk (th (sq (WC.block (sq (rg (wY (ym z) z (wY (ya z) z (nl ?_)))))))))
       refine th ?_
       obtain ⟨gj, h, ex⟩ := bnd h
       refine WC.join (σ := (List api_Pair × Own)) (fun x w' => x.1 = gj ∧ Stp [1010, 1011, 1013] bu aK x.2 w' ∧ OwnSl 1012 rep_api_Pair 59 x.2 w' a x.1) (fun x => [(0, a), (1, vi p), (2, vi (c.length : Int)), (3, Value.func (.func 59) (List.toArray []) (List.toArray [])), (8, vi q)]) ?_ ?_
       ·refine WC.block ?_
        obtain ⟨c0, h, ey⟩ := flow1 h
        obtain ⟨c1, h⟩ := loop_some h
        refine WC.joinB 2 (σ := (List api_Pair × Own)) (fun x w' => c0 = .go x.1 ∧ Stp [1010, 1013] bu aK x.2 w' ∧ OwnSl 1011 rep_api_Pair 59 x.2 w' a x.1) (fun x => [(0, a), (1, vi p), (2, vi (c.length : Int)), (3, Value.func (.func 59) (List.toArray []) (List.toArray [])), (8, vi q)]) ?_ ?_
        ·obtain ⟨gk, c2, ez⟩ := OwnSl.rlb 1010 rfl aL
         refine WC.loop (σ := (List api_Pair × Int × Own)) (fun x k w' => loopN k (label_Sorted_lp5 p) (x.1, x.2.1) = some c0 ∧ Stp [1010, 1013] bu aK x.2.2 w' ∧ OwnSl 1010 rep_api_Pair 59 x.2.2 w' a x.1) (fun x => [(0, a), (1, vi p), (2, vi (c.length : Int)), (3, Value.func (.func 59) (List.toArray []) (List.toArray [])), (8, vi q), (9, vi x.2.1)]) (au, q, gk) c1 (.cons z (.cons z (.cons z (.cons z (.cons z (.cons z .nil)))))) ⟨h, (su_ c2 z), ez⟩ ?_
         rintro ⟨ca, I, an⟩ c1 hR ⟨h, ao, ah⟩
         obtain ⟨gl, iA, rfl, h, bQ⟩ := rnd1 h
         unfold label_Sorted_lp5 at h
         try dsimp only at h ao ah
         refine (show WC _ _ _ _ [(0, a), (1, vi p), (2, vi (c.length : Int)), (3, Value.func (.func 59) (List.toArray []) (List.toArray [])), (8, vi q), (9, vi I)] _ from ?_)
         refine sq (sq (WC.drawH [] [0, 1, 2, 3, 4, 5, 6, 7, 8, 9, 10, 11, 12, 13, 14, 15, 16] an 17 fmix z (by kernel_rfl) ?_))
         intro bR W
         refine WD.y 0 z (by kernel_rfl) (fun _ _ _ => ym z) z (WD.y 1 z (by kernel_rfl) (fun _ _ _ => ym z) z (WD.y 2 z (by kernel_rfl) (fun _ _ _ => Y.gtr_i z z) z (WD.y 3 z (by kernel_rfl) (fun _ _ _ => ym z) z ?_)))
         obtain ⟨gm, h, eA⟩ := bnd h
         refine WD.join (σ := (Bool × Own)) (f' := 0) [16, 15, 14, 13, 12, 11, 10, 9, 8, 7, 6, 5, 4, 3, 2, 1, 0] (fun x O' w' => x.1 = gm ∧ Stp [] an bR x.2 w' ∧ x.2 = O') (fun x => [(0, a), (1, vi p), (2, vi (c.length : Int)), (3, Value.func (.func 59) (List.toArray []) (List.toArray [])), (8, vi q), (9, vi I), (34, vB x.1)]) (fun bS => ?_) ?_
         ·rcases cnd h with ⟨ab, h⟩ | ⟨ab, h⟩
          ·refine WD.ren 21 z (congrArg vB ab) (WD.gT 4 z (by kernel_rfl) z z (fun _ _ _ => ym z) z (WD.gT 5 z (by kernel_rfl) z z (fun _ _ _ => ym z) z (WD.gT 6 z (by kernel_rfl) z z (fun _ _ _ => ym z) z ?_)))
           obtain ⟨J, eB, h⟩ := bnd h
           have ai := ah.st W z z z
           obtain ⟨iB, hm, hS, bT, eC, eD, aN, c3⟩ := OwnSl.at ai eB
           obtain ⟨_, _, rfl, rfl, rfl⟩ := c3
           replace aN : CellsAt _ _ _ [vs J.Key, vs J.Val] := aN
           have c4 := CAt.own ai bT aN
           refine WD.gT 7 z (by kernel_rfl) z z (fun _ _ _ => Y.indexAddr ty33 ty59 z bT z eC eD) z (WD.gT 8 z (by kernel_rfl) z z (fun hT iC c5 => have eE := c4.st c5 z; yL ty59 z z eE.at_ z) z (WD.gT 9 z (by kernel_rfl) z z (fun _ _ _ => ym z) z (WD.gT 10 z (by kernel_rfl) z z (fun _ _ _ => ym z) z (WD.gT 11 z (by kernel_rfl) z z (fun _ _ _ => Y.sub_i z z) z ?_))))
           obtain ⟨K, eF, h⟩ := bnd h
           obtain ⟨iD, hn, hU, bU, eG, eH, aO, c6⟩ := OwnSl.at ai eF
           obtain ⟨_, _, rfl, rfl, rfl⟩ := c6
           replace aO : CellsAt _ _ _ [vs K.Key, vs K.Val] := aO
           have c7 := CAt.own ai bU aO
           refine WD.gT 12 z (by kernel_rfl) z z (fun _ _ _ => Y.indexAddr ty33 ty59 z bU z eG eH) z (WD.gT 13 z (by kernel_rfl) z z (fun hV iE c8 => have eI := c7.st c8 z; yL ty59 z z eI.at_ z) z (WD.heavy 14 z (by kernel_rfl) (ug z z ?_)))
           obtain ⟨gn, h, eJ⟩ := bnd h
           refine WL.callV (fv := []) (cv := []) (vals := [ag [vs J.Key, vs J.Val], ag [vs K.Key, vs K.Val]]) (σ := (Int × Own)) (fun x w' => x.1 = gn ∧ Stp [] an bR x.2 w') (fun x => vi x.1) kok59 z z z ?_ ?_
           ·refine Rets.enter Tryd.func59 z z ?_
            refine (show WC _ _ _ _ [(0, ag [vs J.Key, vs J.Val]), (1, ag [vs K.Key, vs K.Val])] _ from ?_)
            refine sq (rg (WL.box (O := an) 14 [vs J.Key, vs J.Val] z z z ?_))
            intro iF gp hW c9 eK
            refine WL.box (O := gp) 15 [vs K.Key, vs K.Val] z z z ?_
            intro iG gq hX bc eL
            refine wY (ya z) z (nl (th (sq (rg (wY (yf fo59_0 z) z ?_)))))
            have eM := eK.st bc z
            refine wY (yl ty9 z z (eM.cell 0 _ z)) z (wY (yf fo59_0 z) z (wY (yl ty9 z z (eL.cell 0 _ z)) z ?_))
            obtain ⟨gr, eN, h⟩ := bnd h
            refine WL.call (vals := [vs J.Key, vs K.Key]) kok60 z z (c_cmp_Compare_string eN) ?_
            rintro hY hZ ⟨rfl, eO⟩
            obtain ⟨gs, gW, gX, da⟩ := adoptE gq (fun k => 1) eO
            refine wY (ya z) z (nl (th (rt ?_)))
            exact At.res (.inl z) z (.tmp z .nil) ⟨(gr, gs), ⟨some1 h, (tr_ (su_ c9 z) (tr_ (su_ bc z) (su_ da z)))⟩, z⟩
           ·rintro ⟨db, gt⟩ h0 ⟨rfl, ap⟩
            replace h := eJ
            try dsimp only at h ap
            refine (show WL _ _ _ _ _ ((32, vi db) :: _) _ from ?_)
            refine nl (At.dq (su_ ap z) (WD.gT 15 z (by kernel_rfl) z z (fun _ _ _ => Y.lss_i z z) z (WD.y 16 z (by kernel_rfl) (fun _ _ _ => Y.pick (b := true) z z) z (WD.ren 21 z (congrArg vB ab.symm) ?_))))
            exact bS (decide (db < 0), gt) _ _ _ ⟨some1 h, (su_ ap z), z⟩ (.cons z (.cons z (.cons z (.cons z (.cons z (.cons z (.cons z .nil)))))))
          ·refine WD.ren 21 z (congrArg vB ab) (WD.gS 4 z (by kernel_rfl) z z z z (WD.gS 5 z (by kernel_rfl) z z z z (WD.gS 6 z (by kernel_rfl) z z z z (WD.gS 7 z (by kernel_rfl) z z z z (WD.gS 8 z (by kernel_rfl) z z z z (WD.gS 9 z (by kernel_rfl) z z z z (WD.gS 10 z (by kernel_rfl) z z z z (WD.gS 11 z (by kernel_rfl) z z z z (WD.gS 12 z (by kernel_rfl) z z z z ?_)))))))))
           refine WD.gS 13 z (by kernel_rfl) z z z z (WD.heavy 14 z (by kernel_rfl) (WL.gS z z z z (nl (At.dq (sr_ _ _ _) (WD.gS 15 z (by kernel_rfl) z z z z (WD.y 16 z (by kernel_rfl) (fun _ _ _ => Y.pick (b := false) z z) z (WD.ren 21 z (congrArg vB ab.symm) ?_)))))))
           exact bS (false, an) _ _ _ ⟨some1 h, (sr_ _ _ _), z⟩ (.cons z (.cons z (.cons z (.cons z (.cons z (.cons z (.cons z .nil)))))))
         ·rintro ⟨gu, bw⟩ _ h1 ⟨rfl, X, rfl⟩
          replace h := eA
          try dsimp only at h X
          refine (show WD _ _ _ _ _ _ _ _ [(0, a), (1, vi p), (2, vi (c.length : Int)), (3, Value.func (.func 59) (List.toArray []) (List.toArray [])), (8, vi q), (9, vi I), (34, vB gu)] _ _ from ?_)
          refine WD.done_ (by kernel_rfl) (th ?_)
          rcases cnd h with ⟨aP, h⟩ | ⟨aP, h⟩
          ·refine WC.condT' z aP (sk (th (sq (WC.block (WC.drawH [1010] [0, 1, 2, 3, 4, 5, 6, 7, 8, 9, 10, 11, 12, 13, 14, 15, 16] bw 18 fmix z (by kernel_rfl) ?_)))))
           intro eP bd
           refine WD.y 0 z (by kernel_rfl) (fun _ _ _ => ym z) z (WD.y 1 z (by kernel_rfl) (fun _ _ _ => ym z) z (WD.y 2 z (by kernel_rfl) (fun _ _ _ => ym z) z (WD.y 3 z (by kernel_rfl) (fun _ _ _ => ym z) z (WD.y 4 z (by kernel_rfl) (fun _ _ _ => Y.sub_i z z) z (WD.y 5 z (by kernel_rfl) (fun _ _ _ => ym z) z (WD.y 6 z (by kernel_rfl) (fun _ _ _ => ym z) z (WD.y 7 z (by kernel_rfl) (fun _ _ _ => Y.sub_i z z) z ?_)))))))
           obtain ⟨M, eQ, h⟩ := bnd h
           have P := ((ah.st W z z z).st X z z z).st bd z z z
           obtain ⟨iH, ho, h2, bW, eT, eU, aQ, dc⟩ := OwnSl.at P eQ
           obtain ⟨_, _, rfl, rfl, rfl⟩ := dc
           replace aQ : CellsAt _ _ _ [vs M.Key, vs M.Val] := aQ
           have bf := CAt.own P bW aQ
           refine WD.y 8 z (by kernel_rfl) (fun _ _ _ => Y.indexAddr ty33 ty59 z bW z eT eU) z (WD.y 10 z (by kernel_rfl) (fun _ _ _ => ym z) z (WD.y 11 z (by kernel_rfl) (fun _ _ _ => ym z) z ?_))
           obtain ⟨Q, eV, h⟩ := bnd h
           obtain ⟨iI, hp, h3, bX, eW, eX, aR, dd⟩ := OwnSl.at P eV
           obtain ⟨_, _, rfl, rfl, rfl⟩ := dd
           replace aR : CellsAt _ _ _ [vs Q.Key, vs Q.Val] := aR
           have bg := CAt.own P bX aR
           refine WD.y 12 z (by kernel_rfl) (fun _ _ _ => Y.indexAddr ty33 ty59 z bX z eW eX) z ?_
           obtain ⟨gw, h, eY⟩ := bnd h
           refine WD.join (σ := Unit) (f' := 4) [13, 12, 11, 10, 9, 8, 7, 6, 5, 4, 3, 2, 1, 0] (fun x O' w' => () = gw ∧ eP = w' ∧ bw = O') (fun x => [(0, a), (1, vi p), (2, vi (c.length : Int)), (3, Value.func (.func 59) (List.toArray []) (List.toArray [])), (8, vi q), (9, vi I), (37, a), (38, vi I), (39, a), (41, vi (w64 (I - 1))), (46, ag [vs M.Key, vs M.Val]), (50, ag [vs Q.Key, vs Q.Val])]) (fun bY => ?_) ?_
           ·refine WD.heavy2 9 13 z z (by kernel_rfl) ?_ ?_
            ·refine wY (yL ty59 z z bf.at_ z) z (nl (At.dq (sr_ _ _ _) (WD.heavy 13 z (by kernel_rfl) (wY (yL ty59 z z bg.at_ z) z (nl (At.dq (sr_ _ _ _) (WD.perm _ [13, 12, 11, 10, 9, 8, 7, 6, 5, 4, 3, 2, 1, 0] (by kernel_rfl) ?_)))))))
             exact bY () _ _ _ ⟨z, z, z⟩ (.cons z (.cons z (.cons z (.cons z (.cons z (.cons z (.cons z (.cons z (.cons z (.cons z (.cons z (.cons z .nil))))))))))))
            ·try simp only [Option.bind_assoc] at h
             try simp only [Option.bind_some] at h
             refine wY (yL ty59 z z bg.at_ z) z (nl (At.dq (sr_ _ _ _) (WD.heavy 9 z (by kernel_rfl) (wY (yL ty59 z z bf.at_ z) z (nl (At.dq (sr_ _ _ _) (WD.perm _ [13, 12, 11, 10, 9, 8, 7, 6, 5, 4, 3, 2, 1, 0] (by kernel_rfl) ?_)))))))
             exact bY () _ _ _ ⟨z, z, z⟩ (.cons z (.cons z (.cons z (.cons z (.cons z (.cons z (.cons z (.cons z (.cons z (.cons z (.cons z (.cons z .nil))))))))))))
           ·rintro _ _ _ ⟨rfl, rfl, rfl⟩
            replace h := eY
            refine (show WD _ _ _ _ _ _ _ _ [(0, a), (1, vi p), (2, vi (c.length : Int)), (3, Value.func (.func 59) (List.toArray []) (List.toArray [])), (8, vi q), (9, vi I), (37, a), (38, vi I), (39, a), (41, vi (w64 (I - 1))), (46, ag [vs M.Key, vs M.Val]), (50, ag [vs Q.Key, vs Q.Val])] _ _ from ?_)
            obtain ⟨de, eZ, h⟩ := bnd h
            obtain ⟨iJ, hq, h4, aS, e0, e1, aT, df⟩ := OwnSl.at P eZ
            obtain ⟨_, _, rfl, rfl, rfl⟩ := df
            replace aT : CellsAt _ _ _ [vs de.Key, vs de.Val] := aT
            have hr := CAt.own P aS aT
            refine WD.y 14 z (by kernel_rfl) (fun _ _ _ => Y.indexAddr ty33 ty59 z aS z e0 e1) z (WD.heavy 15 z (by kernel_rfl) ?_)
            obtain ⟨h5, dg, h⟩ := bnd h
            refine WL.storeOwn (R := rep_api_Pair) (u := M) (by decide) ty59 z z ⟨[vs M.Key], [vs M.Val], z, z, z⟩ P aS dg ?_
            intro h6 bh aU
            refine nl (At.dq (su_ bh z) ?_)
            obtain ⟨dh, e2, h⟩ := bnd h
            obtain ⟨iK, hs, h7, aW, e5, e6, aX, di⟩ := OwnSl.at aU e2
            obtain ⟨_, _, rfl, rfl, rfl⟩ := di
            replace aX : CellsAt _ _ _ [vs dh.Key, vs dh.Val] := aX
            have ht := CAt.own aU aW aX
            refine WD.y 16 z (by kernel_rfl) (fun _ _ _ => Y.indexAddr ty33 ty59 z aW z e5 e6) z (WD.phase [1010] [0, 1, 2, 3, 4, 5, 6, 7, 8, 9, 10, 11, 12, 13, 14, 15, 16, 17] (by kernel_rfl) (by kernel_rfl) (WD.heavy 17 z (by kernel_rfl) ?_))
            obtain ⟨e7, dj, h⟩ := bnd h
            refine WL.storeOwn (R := rep_api_Pair) (u := Q) (by decide) ty59 z z ⟨[vs Q.Key], [vs Q.Val], z, z, z⟩ aU aW dj ?_
            intro h8 bi e8
            refine nl (At.dq (su_ bi z) (WD.done_ (by kernel_rfl) (At.inBlock (th (rg (wY (ym z) z (wY (Y.sub_i z z) z ?_)))))))
            obtain ⟨gz, e9, h⟩ := lt1 h
            refine WL.yE (ya z) (congrArg vi e9.symm) z (nl ?_)
            exact At.round (e7, gz, bw) gl (Nat.lt_succ_self _) ⟨next1 h bQ, (tr_ (su_ ao z) (tr_ (su_ W z) (tr_ (su_ X z) (tr_ (su_ bd z) (tr_ (su_ bh z) (su_ bi z)))))), e8⟩ (.cons z (.cons z (.cons z (.cons z (.cons z (.cons z .nil))))))
          ·refine WC.condF' z aP (WC.exit (At.thenX (At.loopX ?_)))
           have fc := (ah.st W z z z).st X z z z
           obtain ⟨gB, dk, fd⟩ := OwnSl.rlb 1011 rfl fc
           exact At.hitB (σ := (List api_Pair × Own)) (ca, gB) ⟨brk1 h bQ, (tr_ (su_ ao z) (tr_ (su_ W z) (tr_ (su_ X z) (su_ dk z)))), fd⟩ (.cons z (.cons z (.cons z (.cons z (.cons z .nil)))))
        ·rintro ⟨cb, iL⟩ h9 ⟨rfl, bj, bZ⟩
         replace h := flowK_go ey
         try dsimp only at h bj bZ
         refine (show At _ _ _ [(0, a), (1, vi p), (2, vi (c.length : Int)), (3, Value.func (.func 59) (List.toArray []) (List.toArray [])), (8, vi q)] _ from ?_)
         refine At.inBlockHit ?_
         obtain ⟨gC, dl, fe⟩ := OwnSl.rlb 1012 rfl bZ
         exact At.join (σ := (List api_Pair × Own)) (cb, gC) ⟨some1 h, (tr_ (su_ bj z) (su_ dl z)), fe⟩ (.cons z (.cons z (.cons z (.cons z (.cons z .nil)))))
       ·rintro ⟨cc, iM⟩ ia ⟨rfl, bk, b0⟩
        replace h := ex
        try dsimp only at h bk b0
        refine (show At _ _ _ [(0, a), (1, vi p), (2, vi (c.length : Int)), (3, Value.func (.func 59) (List.toArray []) (List.toArray [])), (8, vi q)] _ from ?_)
        refine At.inBlock (th (rg (wY (ym z) z (wY (Y.add_i z z) z ?_))))
        obtain ⟨gE, ff, h⟩ := lt1 h
        refine WL.yE (ya z) (congrArg vi ff.symm) z (nl ?_)
        obtain ⟨gG, dm, fg⟩ := OwnSl.rlb 1013 rfl b0
        exact At.round (cc, gE, gG) gi (Nat.lt_succ_self _) ⟨next1 h bP, (tr_ (su_ am z) (tr_ (su_ bk z) (su_ dm z))), fg⟩ (.cons z (.cons z (.cons z (.cons z (.cons z .nil)))))
      ·refine WC.condF' z aM (WC.exit (At.thenX (At.loopX ?_)))
       obtain ⟨gH, dn, fh⟩ := OwnSl.rlb 1014 rfl aL
       exact At.hitB (σ := (List api_Pair × Own)) (au, gH) ⟨brk1 h bP, (tr_ (su_ am z) (su_ dn z)), fh⟩ .nil
     ·rintro ⟨gI, iN⟩ ib ⟨rfl, bl, b1⟩
      replace h := flowK_go eu
      try dsimp only at h bl b1
      refine (show At _ _ _ [] _ from ?_)
      refine At.inBlockHit ?_
      obtain ⟨gJ, dp, fi⟩ := OwnSl.rlb 1015 rfl b1
      exact At.res (.inr z) z .nil ⟨(gI, gJ), ⟨some1 h, (tr_ (su_ bl z) (su_ dp z)), fi⟩, z⟩
    ·rintro ⟨cd, iO⟩ S ⟨rfl, bm, b2⟩
     replace h := es
     try dsimp only at h bm b2
     refine (show WL _ _ _ _ _ ((27, tp []) :: _) _ from ?_)
     refine nl (th (WC.block ?_))
     obtain ⟨dr, h, fj⟩ := flow1 h
     obtain ⟨ds, h⟩ := loop_some h
     refine WC.joinB 2 (σ := Unit) (fun x w' => dr = .go () ∧ S = w') (fun x => []) ?_ ?_
     ·refine WC.loop (σ := Int) (fun x k w' => loopN k (label_Sorted_lp6 c) x = some dr ∧ S = w') (fun x => [(0, a), (1, vi (c.length : Int)), (2, Value.func (.func 59) (List.toArray []) (List.toArray [])), (6, vi x)]) 20 ds (.cons z (.cons z (.cons z (.cons z .nil)))) ⟨h, z⟩ ?_
      rintro j ds _ ⟨h, rfl⟩
      obtain ⟨gK, iP, rfl, h, b3⟩ := rnd1 h
      unfold label_Sorted_lp6 at h
      try dsimp only at h
      refine (show WC _ _ _ _ [(0, a), (1, vi (c.length : Int)), (2, Value.func (.func 59) (List.toArray []) (List.toArray [])), (6, vi j)] _ from ?_)
      refine sq (sq (rg (wY (ym z) z (wY (ym z) z (wY (Y.lss_i z z) z (nl (th ?_)))))))
      rcases cnd h with ⟨aY, h⟩ | ⟨aY, h⟩
      ·refine WC.condT' z aY (sk (th ?_))
       obtain ⟨gL, h, fk⟩ := bnd h
       refine WC.join (σ := Int) (fun x w' => x = gL ∧ S = w') (fun x => [(0, a), (1, vi (c.length : Int)), (2, Value.func (.func 59) (List.toArray []) (List.toArray [])), (6, vi x)]) ?_ ?_
       ·refine WC.block (sq (rg (wY (ym z) z (wY (Y.mul_i z z) z (wY (ya z) z ?_)))))
        obtain ⟨bx, fl, h⟩ := lt1 h
        refine WL.yE (ya z) (congrArg vi fl.symm) z (nl (th (sq ?_)))
        obtain ⟨gM, h, fm⟩ := bnd h
        refine WC.join (σ := Unit) (fun x w' => () = gM ∧ S = w') (fun x => [(0, a), (1, vi (c.length : Int)), (2, Value.func (.func 59) (List.toArray []) (List.toArray [])), (6, vi j), (7, vi 0)]) ?_ ?_
        ·refine WC.block ?_
         obtain ⟨dt, h, fn⟩ := flow1 h
         obtain ⟨du, h⟩ := loop_some h
         refine WC.joinB 4 (σ := Unit) (fun x w' => dt = .go () ∧ S = w') (fun x => [(0, a), (1, vi (c.length : Int)), (2, Value.func (.func 59) (List.toArray []) (List.toArray [])), (6, vi j), (7, vi 0)]) ?_ ?_
         ·refine WC.loop (σ := Unit) (fun x k w' => loopN k (label_Sorted_lp7 c bx) () = some dt ∧ S = w') (fun x => [(0, a), (1, vi (c.length : Int)), (2, Value.func (.func 59) (List.toArray []) (List.toArray [])), (6, vi j), (7, vi 0), (8, vi bx)]) () du (.cons z (.cons z (.cons z (.cons z (.cons z (.cons z .nil)))))) ⟨h, z⟩ ?_
          rintro _ du _ ⟨h, rfl⟩
          obtain ⟨iQ, iR, rfl, h, fo⟩ := rnd1 h
          unfold label_Sorted_lp7 at h
          refine (show WC _ _ _ _ [(0, a), (1, vi (c.length : Int)), (2, Value.func (.func 59) (List.toArray []) (List.toArray [])), (6, vi j), (7, vi 0), (8, vi bx)] _ from ?_)
          refine sq (sq (rg (wY (ym z) z (wY (ym z) z (wY (Y.leq_i z z) z (nl (th ?_)))))))
          rcases cnd h with ⟨aZ, h⟩ | ⟨aZ, h⟩
          ·refine WC.condT' z aZ (sk (th (WC.block (sq (rg (wY (ym z) z (wY (ym z) z (wY (ym z) z (wY (ym z) z ?_)))))))))
           refine wY (Y.add_i z z) z (wY (ym z) z (wY (ym z) z ?_))
           cases h
          ·refine WC.condF' z aZ (WC.exit (At.thenX (At.loopX ?_)))
           exact At.hitB (σ := Unit) () ⟨brk1 h fo, z⟩ (.cons z (.cons z (.cons z (.cons z (.cons z .nil)))))
         ·rintro _ _ ⟨rfl, rfl⟩
          replace h := flowK_go fn
          refine (show At _ _ _ [(0, a), (1, vi (c.length : Int)), (2, Value.func (.func 59) (List.toArray []) (List.toArray [])), (6, vi j), (7, vi 0)] _ from ?_)
          refine At.inBlockHit ?_
          exact At.join (σ := Unit) () ⟨some1 h, z⟩ (.cons z (.cons z (.cons z (.cons z (.cons z .nil)))))
        ·rintro _ _ ⟨rfl, rfl⟩
         replace h := fm
         refine (show At _ _ _ [(0, a), (1, vi (c.length : Int)), (2, Value.func (.func 59) (List.toArray []) (List.toArray [])), (6, vi j), (7, vi 0)] _ from ?_)
         refine th (sq ?_)
         obtain ⟨gO, h, fp⟩ := bnd h
         refine WC.join (σ := Unit) (fun x w' => () = gO ∧ S = w') (fun x => [(0, a), (1, vi (c.length : Int)), (2, Value.func (.func 59) (List.toArray []) (List.toArray [])), (6, vi j)]) ?_ ?_
         ·refine sq (rg (wY (ym z) z (wY (ym z) z (wY (Y.add_i z z) z ?_))))
          obtain ⟨iS, fq, h⟩ := lt1 h
          refine WL.yE (ya z) (congrArg vi fq.symm) z (nl (th (sq (rg (wY (ym z) z (wY (ym z) z (wY (Y.lss_i z z) z (nl (th ?_)))))))))
          rcases cnd h with ⟨a1, h⟩ | ⟨a1, h⟩
          ·refine WC.condT' z a1 (rg (wY (ym z) z (wY (ym z) z (wY (ym z) z (wY (ym z) z (wY (ym z) z ?_))))))
           cases h
          ·refine WC.condF' z a1 (sk ?_)
           exact At.join (σ := Unit) () ⟨some1 h, z⟩ (.cons z (.cons z (.cons z (.cons z .nil))))
         ·rintro _ _ ⟨rfl, rfl⟩
          replace h := fp
          refine (show At _ _ _ [(0, a), (1, vi (c.length : Int)), (2, Value.func (.func 59) (List.toArray []) (List.toArray [])), (6, vi j)] _ from ?_)
          refine th (rg (wY (ym z) z (wY (Y.mul_i z z) z ?_)))
          obtain ⟨aq, ad, h⟩ := lt1 h
          refine WL.yE (ya z) (congrArg vi ad.symm) z (nl (At.inBlock ?_))
          exact At.join (σ := Int) aq ⟨some1 h, z⟩ (.cons z (.cons z (.cons z (.cons z .nil))))
       ·rintro Z _ ⟨rfl, rfl⟩
        replace h := fk
        try dsimp only at h
        refine (show At _ _ _ [(0, a), (1, vi (c.length : Int)), (2, Value.func (.func 59) (List.toArray []) (List.toArray [])), (6, vi Z)] _ from ?_)
        exact At.round Z gK (Nat.lt_succ_self _) ⟨next1 h b3, z⟩ (.cons z (.cons z (.cons z (.cons z .nil))))
      ·refine WC.condF' z aY (WC.exit (At.thenX (At.loopX ?_)))
       exact At.hitB (σ := Unit) () ⟨brk1 h b3, z⟩ .nil
     ·rintro _ _ ⟨rfl, rfl⟩
      replace h := flowK_go fj
      refine (show At _ _ _ [] _ from ?_)
      refine At.inBlockHit ?_
      obtain ⟨gP, dw, fs⟩ := OwnSl.rlb 1016 rfl b2
      exact At.res (.inr z) z .nil ⟨(cd, gP), ⟨some1 h, (tr_ (su_ bO z) (tr_ (su_ bm z) (su_ dw z))), fs⟩, z⟩
  ·rintro ⟨hu, iY⟩ iT ⟨rfl, b4, dx⟩
   replace h := fF
   try dsimp only at h b4 dx
   refine (show WL _ _ _ _ _ ((8, tp []) :: _) _ from ?_)
   refine nl ?_
   obtain ⟨gQ, dy, ft⟩ := OwnSl.rlb 1018 rfl dx
   exact At.res (.inr z) z .nil ⟨(hu, gQ), ⟨some1 h, (tr_ (su_ b4 z) (su_ dy z)), ft⟩, z⟩
 ·rintro ⟨ic, hv⟩ gR ⟨rfl, b5, dz⟩
  replace h := fD
  try dsimp only at h b5 dz
  refine (show WL _ _ _ _ _ ((7, tp []) :: _) _ from ?_)
  refine nl (th (sq (rg (wY (ym z) z (wY (ya z) z (nl (th (rt ?_))))))))
  obtain rfl := some1 h
  have b6 : Stp [11, 1001, 1002, 1003, 1004, 1005, 1006, 1007, 1008, 1009, 1010, 1011, 1012, 1013, 1014, 1015, 1016] (Lg.O0 A) w hv gR := (tr_ (su_ dA z) (su_ b5 z))
  exact At.res (.inl z) z (.tmp z .nil) ⟨a, z, (se_ b6 z z), (OwnSl.outF dz b6 low0 z)⟩
theorem c_relabel_Rules_Apply {A : Nat → Prop} {v0_0 : Value} {a0 : relabel_Rules} {b0 : Nat} {v1_1 : Value} {v1_13 : Value} {v1_15 : Value} {a1 : api_Point} {w : World} (hs0_0 : Sl rep_relabel_rule w A v0_0 a0.l) (hb0 : w.heap[b0]? = some (.cells (List.toArray [v0_0]) 71 (0, 0))) (hm0 : A b0) (hs1_1 : Sl rep_api_Pair w A v1_1 a1.Attrs) (hs1_13 : Sl Rep.u w A v1_13 a1.Hist.Pos.Counts) (hs1_15 : Sl Rep.u w A v1_15 a1.Hist.Neg.Counts) {r0 : api_Point} {r1 : Bool} {r2 : Int} (h : relabel_Rules_Apply a0 a1 = some (r0, r1, r2)) : Rets Tryd.prog 14 [pt b0 0, ag (cp a1 v1_1 v1_13 v1_15)] w (fun v w' => ∃ (af : Value) (W : Value) (X : Value), v = Value.tuple (List.toArray [ag (cp r0 af W X), vB r1, vi r2]) ∧ Ext w w' ∧ RowF rep_api_Pair 59 w w' af r0.Attrs ∧ RowF Rep.u 34 w w' W r0.Hist.Pos.Counts ∧ RowF Rep.u 34 w w' X r0.Hist.Neg.Counts ∧ (∀ k, ob af = some k → ob W ≠ some k) ∧ (∀ k, ob af = some k → ob X ≠ some k) ∧ (∀ k, ob W = some k → ob X ≠ some k)) := by
 unfold relabel_Rules_Apply at h
 refine Rets.enter Tryd.func14 z z ?_
 have b6 : Sl rep_relabel_rule w (imm (Lg.O0 A)) v0_0 a0.l := (Sl.start hs0_0)
 have b7 : Blk 0 (Lg.O0 A) w b0 71 [v0_0] := ⟨(if_pos hm0), hb0⟩
 have aW : Sl rep_api_Pair w (imm (Lg.O0 A)) v1_1 a1.Attrs := (Sl.start hs1_1)
 have aX : Sl Rep.u w (imm (Lg.O0 A)) v1_13 a1.Hist.Pos.Counts := (Sl.start hs1_13)
 have aY : Sl Rep.u w (imm (Lg.O0 A)) v1_15 a1.Hist.Neg.Counts := (Sl.start hs1_15)
 refine (show WC _ _ _ _ [(0, pt b0 0), (1, ag (cp a1 v1_1 v1_13 v1_15))] _ from ?_)
 refine sq (rg ?_)
 have b8 := h
 obtain ⟨au, av, ax, rfl⟩ := aW.shape
 have h := b8
 have b9 := h
 obtain ⟨ay, az, aA, rfl⟩ := aX.shape
 have h := b9
 have ca := h
 obtain ⟨aC, aD, aE, rfl⟩ := aY.shape
 have h := ca
 refine WL.box (O := (Lg.O0 A)) 11 (cp a1 (vl au av ax) (vl ay az aA) (vl aC aD aE)) z z z ?_
 intro c7 cL c0 o cb
 refine WL.alloc (O := cL) 12 [vs [], sn, vi 0, vi 0, vB false, vi 0, vi 0, vi 0, vu 0, vu 0, vi 0, vu 0, vi 0, sn, vi 0, sn, vi 0] ty41 z z ?_
 intro bS cM c1 c aZ
 refine wY (ya z) z (wY (ya z) z (nl (th (sq (sq (rg ?_))))))
 have a2 := cb.st c z
 refine wY (yL ty41 z z (a2.cells 0 (cp a1 (vl au av ax) (vl ay az aA) (vl aC aD aE)) z) z) z ?_
 have a3 := (aW.i o z z).i c z z
 have a4 := (aX.i o z z).i c z z
 have a5 := (aY.i o z z).i c z z
 obtain ⟨c8, cf, h⟩ := bnd h
 refine WL.call (vals := [ag (cp a1 (vl au av ax) (vl ay az aA) (vl aC aD aE))]) kok31 z z (c_point_Check (A := fun _ => True) (a0 := a1) (Sl.all a3) (Sl.all a4) (Sl.all a5) cf) ?_
 rintro c2 c3 ⟨rfl, cg⟩
 obtain ⟨bT, cN, cO, a⟩ := adoptE cM (fun k => 1) cg
 refine wY (ya z) z (nl (th (sq (rg (wY (ym z) z (wY (Y.neq_i z z) z (nl (th ?_))))))))
 rcases cnd h with ⟨aG, h⟩ | ⟨aG, h⟩
 ·refine WC.condT' z aG (sq (rg (wY (yb (vals := []) (cells := [vs [], sn, vi 0, vi 0, vB false, vi 0, vi 0, vi 0, vu 0, vu 0, vi 0, vu 0, vi 0, sn, vi 0, sn, vi 0]) (fe_ z) (by kernel_rfl)) z (wY (ym z) z ?_))))
  have ch := aZ.st a z
  refine WL.store (v := Value.agg (List.toArray [vs [], sn, vi 0, vi 0, vB false, vi 0, vi 0, vi 0, vu 0, vu 0, vi 0, vu 0, vi 0, sn, vi 0, sn, vi 0])) (cells' := [vs [], sn, vi 0, vi 0, vB false, vi 0, vi 0, vi 0, vu 0, vu 0, vi 0, vu 0, vi 0, sn, vi 0, sn, vi 0]) ty41 z z ch z (le_ z) z z ?_
  intro ci bf cj
  refine wY (ya z) z (wY (ya z) z (nl (th (rt (At.thenR ?_)))))
  obtain ⟨rfl, rfl, rfl⟩ := tup3 h
  have ck : Stp [12] (Lg.O0 A) w bT ci := (tr_ (su_ o z) (tr_ (su_ c z) (tr_ (su_ a z) (su_ bf z))))
  exact At.res (.inl z) z (.cell z (cj.runAg 0 [vs [], sn, vi 0, vi 0, vB false, vi 0, vi 0, vi 0, vu 0, vu 0, vi 0, vu 0, vi 0, sn, vi 0, sn, vi 0] ty41 z z z) (.tmp z (.tmp z .nil))) ⟨sn, sn, sn, z, (se_ ck z z), RowF.nil, RowF.nil, RowF.nil, (fun _ e => absurd e not_nil), (fun _ e => absurd e not_nil), (fun _ e => absurd e not_nil)⟩
 ·refine WC.condF' z aG (sk (th (sq (rg ?_))))
  have cl := a2.st a z
  refine wY (yL ty41 z z (cl.cells 0 (cp a1 (vl au av ax) (vl ay az aA) (vl aC aD aE)) z) z) z ?_
  have cm := a3.i a z z
  have cn := a4.i a z z
  have co := a5.i a z z
  obtain ⟨ae, cq, h⟩ := bnd h
  refine WL.call (vals := [ag (cp a1 (vl au av ax) (vl ay az aA) (vl aC aD aE))]) kok21 z z (c_point_Clone (A := fun _ => True) (a0 := a1) (Sl.all cm) (Sl.all cn) (Sl.all co) cq) ?_
  rintro c4 aH ⟨aJ, a6, bU, rfl, cr, cP, cQ, cR, cS, cT, cU⟩
  obtain ⟨aF, cV, ac, H⟩ := adoptE bT (fun k => if ob aJ = some k then 13 else if ob a6 = some k then 14 else if ob bU = some k then 15 else 1) cr
  have a7 : OwnSl 13 rep_api_Pair 59 aF aH aJ ae.Attrs := RowF.adopt 13 flat_api_Pair cP ac (fun k hk => if_pos hk)
  have a8 : OwnSl 14 Rep.u 34 aF aH a6 ae.Hist.Pos.Counts := RowF.adopt 14 Flat.u cQ ac (fun k hk => (if_neg (fun (e : ob aJ = some k) => cS k e hk)).trans (if_pos hk))
  have a9 : OwnSl 15 Rep.u 34 aF aH bU ae.Hist.Neg.Counts := RowF.adopt 15 Flat.u cR ac (fun k hk => (if_neg (fun (e : ob aJ = some k) => cT k e hk)).trans ((if_neg (fun (e : ob a6 = some k) => cU k e hk)).trans (if_pos hk)))
  have cs := h
  obtain ⟨bW, bX, bY, rfl⟩ := a7.shape
  have h := cs
  have ct := h
  obtain ⟨bZ, b1, b2, rfl⟩ := a8.shape
  have h := ct
  have cu := h
  obtain ⟨b3, b4, b5, rfl⟩ := a9.shape
  have h := cu
  have cx := (aZ.st a z).st H z
  refine WL.store (v := ag (cp ae (vl bW bX bY) (vl bZ b1 b2) (vl b3 b4 b5))) (cells' := (cp ae (vl bW bX bY) (vl bZ b1 b2) (vl b3 b4 b5))) ty41 z z cx z (le_ z) z z ?_
  intro aI j q
  refine nl (th (sq (sq (rg (wY (ym z) z ?_)))))
  have r := a7.st j z z z
  have t := a8.st j z z z
  have D := a9.st j z z z
  have aK := ((((b7.st o z).st c z).st a z).st H z).st j z
  have bo := ((((b6.i o z z).i c z z).i a z z).i H z z).i j z z
  obtain ⟨⟨c5, m⟩, bp, h⟩ := bnd h
  refine WL.call (vals := [pt b0 0, pt bS 0]) kok32 z z (c_relabel_Rules_run (A := out [12, 13, 14, 15] aF) (a0 := a0) (a1 := ae) (Sl.notin (L := [12, 13, 14, 15]) bo z z) aK.blk (out_lab aK.lab z) r.row t.row D.row q.blk (ne_lab r q.lab z) (ne_lab t q.lab z) (ne_lab D q.lab z) (ne_own r t z) (ne_own r D z) (ne_own t D z) (fun k hk => ⟨out_ne q.lab z k hk, out_neV (w := aI) r.labs z k hk, out_neV (w := aI) t.labs z k hk, out_neV (w := aI) D.labs z k hk⟩) bp) ?_
  rintro cW Z ⟨F, G, J, rfl, bq, cy, cz, cA, cC, cD, cE, cF⟩
  obtain ⟨U, I, V, ad⟩ := adopt aF (fun k => if ob F = some k then 13 else if ob G = some k then 14 else if ob J = some k then 15 else 1) [12, 13, 14, 15] bq (memOr (memB q.lab rfl) (memOr (memV r.labs rfl) (memOr (memV t.labs rfl) (memV D.labs rfl))))
  have aL : OwnSl 13 rep_api_Pair 59 U Z F m.Attrs := RowG.adopt flat_api_Pair r.labs cy I V (fun k hk => if_pos hk)
  have aM : OwnSl 14 Rep.u 34 U Z G m.Hist.Pos.Counts := RowG.adopt Flat.u t.labs cz I V (fun k hk => (if_neg (fun (e : ob F = some k) => cD k e hk)).trans (if_pos hk))
  have aN : OwnSl 15 Rep.u 34 U Z J m.Hist.Neg.Counts := RowG.adopt Flat.u D.labs cA I V (fun k hk => (if_neg (fun (e : ob F = some k) => cE k e hk)).trans ((if_neg (fun (e : ob G = some k) => cF k e hk)).trans (if_pos hk)))
  have aa : Blk 12 U Z bS 41 (cp m F G J) := Blk.adopt q I cC
  refine wY (Y.geq_i z z) z (nl (th ?_))
  rcases cnd h with ⟨ah, h⟩ | ⟨ah, h⟩
  ·refine WC.condT' z ah (sq (rg (wY (yb (vals := []) (cells := [vs [], sn, vi 0, vi 0, vB false, vi 0, vi 0, vi 0, vu 0, vu 0, vi 0, vu 0, vi 0, sn, vi 0, sn, vi 0]) (fe_ z) (by kernel_rfl)) z (WL.store (v := Value.agg (List.toArray [vs [], sn, vi 0, vi 0, vB false, vi 0, vi 0, vi 0, vu 0, vu 0, vi 0, vu 0, vi 0, sn, vi 0, sn, vi 0])) (cells' := [vs [], sn, vi 0, vi 0, vB false, vi 0, vi 0, vi 0, vu 0, vu 0, vi 0, vu 0, vi 0, sn, vi 0, sn, vi 0]) ty41 z z aa z (le_ z) z z ?_))))
   intro br ba bs
   refine wY (ya z) z (wY (ya z) z (nl (th (rt (At.thenR ?_)))))
   obtain ⟨rfl, rfl, rfl⟩ := tup3 h
   have bt : Stp [12, 13, 14, 15] (Lg.O0 A) w U br := (tr_ (su_ o z) (tr_ (su_ c z) (tr_ (su_ a z) (tr_ (su_ H z) (tr_ (su_ j z) (tr_ (su_ ad z) (su_ ba z)))))))
   exact At.res (.inl z) z (.cell z (bs.runAg 0 [vs [], sn, vi 0, vi 0, vB false, vi 0, vi 0, vi 0, vu 0, vu 0, vi 0, vu 0, vi 0, sn, vi 0, sn, vi 0] ty41 z z z) (.tmp z (.tmp z .nil))) ⟨sn, sn, sn, z, (se_ bt z z), RowF.nil, RowF.nil, RowF.nil, (fun _ e => absurd e not_nil), (fun _ e => absurd e not_nil), (fun _ e => absurd e not_nil)⟩
  ·refine WC.condF' z ah (sk (th (sq (sq (rg (wY (yL ty41 z z (aa.cells 0 (cp m F G J) z) z) z ?_))))))
   obtain ⟨c6, bu, h⟩ := bnd h
   refine WL.call (vals := [ag (cp m F G J)]) kok31 z z (c_point_Check (A := fun _ => True) (a0 := m) (aL.src.sl) (aM.src.sl) (aN.src.sl) bu) ?_
   rintro cX cY ⟨rfl, bw⟩
   obtain ⟨bb, cI, cJ, p⟩ := adoptE U (fun k => 1) bw
   refine wY (ya z) z (nl (th (sq (rg (wY (ym z) z (wY (Y.neq_i z z) z (nl (th ?_))))))))
   rcases cnd h with ⟨ai, h⟩ | ⟨ai, h⟩
   ·refine WC.condT' z ai (sq (rg (wY (yb (vals := []) (cells := [vs [], sn, vi 0, vi 0, vB false, vi 0, vi 0, vi 0, vu 0, vu 0, vi 0, vu 0, vi 0, sn, vi 0, sn, vi 0]) (fe_ z) (by kernel_rfl)) z (wY (ym z) z ?_))))
    have bx := aa.st p z
    refine WL.store (v := Value.agg (List.toArray [vs [], sn, vi 0, vi 0, vB false, vi 0, vi 0, vi 0, vu 0, vu 0, vi 0, vu 0, vi 0, sn, vi 0, sn, vi 0])) (cells' := [vs [], sn, vi 0, vi 0, vB false, vi 0, vi 0, vi 0, vu 0, vu 0, vi 0, vu 0, vi 0, sn, vi 0, sn, vi 0]) ty41 z z bx z (le_ z) z z ?_
    intro bz bc bA
    refine wY (ya z) z (wY (ya z) z (nl (th (rt (At.thenR ?_)))))
    obtain ⟨rfl, rfl, rfl⟩ := tup3 h
    have bB : Stp [12, 13, 14, 15] (Lg.O0 A) w bb bz := (tr_ (su_ o z) (tr_ (su_ c z) (tr_ (su_ a z) (tr_ (su_ H z) (tr_ (su_ j z) (tr_ (su_ ad z) (tr_ (su_ p z) (su_ bc z))))))))
    exact At.res (.inl z) z (.cell z (bA.runAg 0 [vs [], sn, vi 0, vi 0, vB false, vi 0, vi 0, vi 0, vu 0, vu 0, vi 0, vu 0, vi 0, sn, vi 0, sn, vi 0] ty41 z z z) (.tmp z (.tmp z .nil))) ⟨sn, sn, sn, z, (se_ bB z z), RowF.nil, RowF.nil, RowF.nil, (fun _ e => absurd e not_nil), (fun _ e => absurd e not_nil), (fun _ e => absurd e not_nil)⟩
   ·refine WC.condF' z ai (sk (th (sq (rg (wY (yf fo41_1 z) z ?_)))))
    have aO := aa.st p z
    refine wY (yl ty33 z z (aO.cell 1 _ z)) z ?_
    have bC := aL.st p z z z
    obtain ⟨cG, bD, h⟩ := bnd h
    refine WL.call (vals := [F]) kok33 z z (c_label_Sorted (A := fun _ => True) (bC.src.sl) bD) ?_
    rintro aP bE ⟨_, rfl, bF, cH⟩
    obtain ⟨bd, cK, aU, Q⟩ := adoptE bb (fun k => if ob aP = some k then 16 else 1) bF
    have aQ : OwnSl 16 rep_api_Pair 59 bd bE aP cG := RowF.adopt 16 flat_api_Pair cH aU (fun k hk => if_pos hk)
    refine wY (yf fo41_1 z) z ?_
    have bG := h
    obtain ⟨K, M, P, rfl⟩ := aQ.shape
    have h := bG
    have bH := aO.st Q z
    refine WL.store (v := (vl K M P)) (cells' := (cp m (vl K M P) G J)) ty33 z z bH z (le_ z) z z ?_
    intro cZ S aR
    refine nl (th (sq (rg (wY (yL ty41 z z (aR.cells 0 (cp m (vl K M P) G J) z) z) z ?_))))
    have aS := ((aM.st p z z z).st Q z z z).st S z z z
    have bK := h
    obtain ⟨aj, ak, al, rfl⟩ := aS.shape
    have h := bK
    have aT := ((aN.st p z z z).st Q z z z).st S z z z
    have bO := h
    obtain ⟨am, an, ao, rfl⟩ := aT.shape
    have h := bO
    refine WL.store (v := ag (cp m (vl K M P) (vl aj ak al) (vl am an ao))) (cells' := (cp m (vl K M P) (vl aj ak al) (vl am an ao))) ty41 z z aR z (le_ z) z z ?_
    intro bP T bQ
    refine wY (ya z) z (wY (ya z) z (nl (th (rt ?_))))
    obtain ⟨rfl, rfl, rfl⟩ := tup3 h
    have ab : Stp [12, 13, 14, 15] (Lg.O0 A) w bd bP := (tr_ (su_ o z) (tr_ (su_ c z) (tr_ (su_ a z) (tr_ (su_ H z) (tr_ (su_ j z) (tr_ (su_ ad z) (tr_ (su_ p z) (tr_ (su_ Q z) (tr_ (su_ S z) (su_ T z))))))))))
    have ap := (aQ.st S z z z).st T z z z
    have aq := aS.st T z z z
    have ar := aT.st T z z z
    exact At.res (.inl z) z (.cell z (bQ.runAg 0 (cp m (vl K M P) (vl aj ak al) (vl am an ao)) ty41 z z z) (.tmp z (.tmp z .nil))) ⟨(vl K M P), (vl aj ak al), (vl am an ao), z, (se_ ab z z), (OwnSl.outF ap ab low0 z), (OwnSl.outF aq ab low0 z), (OwnSl.outF ar ab low0 z), (ne_own ap aq z), (ne_own ap ar z), (ne_own aq ar z)⟩
theorem c_relabel_Rules_Stop {A : Nat → Prop} {v0_0 : Value} {a0 : relabel_Rules} {b0 : Nat} {v1_1 : Value} {v1_13 : Value} {v1_15 : Value} {a1 : api_Point} {w : World} (hs0_0 : Sl rep_relabel_rule w A v0_0 a0.l) (hb0 : w.heap[b0]? = some (.cells (List.toArray [v0_0]) 71 (0, 0))) (hm0 : A b0) (hs1_1 : Sl rep_api_Pair w A v1_1 a1.Attrs) (hs1_13 : Sl Rep.u w A v1_13 a1.Hist.Pos.Counts) (hs1_15 : Sl Rep.u w A v1_15 a1.Hist.Neg.Counts) {r0 : Int} (h : relabel_Rules_Stop a0 a1 = some r0) : Rets Tryd.prog 20 [pt b0 0, ag (cp a1 v1_1 v1_13 v1_15)] w (fun v w' => v = vi r0 ∧ Ext w w') := by
 unfold relabel_Rules_Stop at h
 refine Rets.enter Tryd.func20 z z ?_
 have aX : Sl rep_relabel_rule w (imm (Lg.O0 A)) v0_0 a0.l := (Sl.start hs0_0)
 have aY : Blk 0 (Lg.O0 A) w b0 71 [v0_0] := ⟨(if_pos hm0), hb0⟩
 have aj : Sl rep_api_Pair w (imm (Lg.O0 A)) v1_1 a1.Attrs := (Sl.start hs1_1)
 have ak : Sl Rep.u w (imm (Lg.O0 A)) v1_13 a1.Hist.Pos.Counts := (Sl.start hs1_13)
 have al : Sl Rep.u w (imm (Lg.O0 A)) v1_15 a1.Hist.Neg.Counts := (Sl.start hs1_15)
 refine (show WC _ _ _ _ [(0, pt b0 0), (1, ag (cp a1 v1_1 v1_13 v1_15))] _ from ?_)
 refine sq (rg ?_)
 have aZ := h
 obtain ⟨Q, S, T, rfl⟩ := aj.shape
 have h := aZ
 have a2 := h
 obtain ⟨U, V, W, rfl⟩ := ak.shape
 have h := a2
 have a3 := h
 obtain ⟨X, Z, aa, rfl⟩ := al.shape
 have h := a3
 refine WL.box (O := (Lg.O0 A)) 11 (cp a1 (vl Q S T) (vl U V W) (vl X Z aa)) z z z ?_
 intro bS bw bM c am
 refine wY (ya z) z (nl (th (sq (sq (rg (wY (yL ty41 z z (am.cells 0 (cp a1 (vl Q S T) (vl U V W) (vl X Z aa)) z) z) z ?_))))))
 have an := aj.i c z z
 have ao := ak.i c z z
 have ap := al.i c z z
 obtain ⟨bT, a4, h⟩ := bnd h
 refine WL.call (vals := [ag (cp a1 (vl Q S T) (vl U V W) (vl X Z aa))]) kok31 z z (c_point_Check (A := fun _ => True) (a0 := a1) (Sl.all an) (Sl.all ao) (Sl.all ap) a4) ?_
 rintro bO a5 ⟨rfl, a6⟩
 obtain ⟨aJ, bx, bz, a⟩ := adoptE bw (fun k => 1) a6
 refine wY (Y.neq_i z z) z (nl (th ?_))
 rcases cnd h with ⟨ab, h⟩ | ⟨ab, h⟩
 ·refine WC.condT' z ab (sq (rg (wY (ya z) z (nl (th (rt (At.thenR ?_)))))))
  obtain rfl := some1 h
  have a7 : Stp [] (Lg.O0 A) w aJ a5 := (tr_ (su_ c z) (su_ a z))
  exact At.res (.inl z) z (.tmp z .nil) ⟨z, (se_ a7 z z)⟩
 ·refine WC.condF' z ab (sk (th (sq (rg ?_))))
  have a8 := am.st a z
  refine wY (yL ty41 z z (a8.cells 0 (cp a1 (vl Q S T) (vl U V W) (vl X Z aa)) z) z) z ?_
  have a9 := an.i a z z
  have ba := ao.i a z z
  have bb := ap.i a z z
  obtain ⟨J, bc, h⟩ := bnd h
  refine WL.call (vals := [ag (cp a1 (vl Q S T) (vl U V W) (vl X Z aa))]) kok21 z z (c_point_Clone (A := fun _ => True) (a0 := a1) (Sl.all a9) (Sl.all ba) (Sl.all bb) bc) ?_
  rintro bP ac ⟨af, aq, aK, rfl, bd, bA, bB, bC, bD, bE, bF⟩
  obtain ⟨ah, bG, G, K⟩ := adoptE aJ (fun k => if ob af = some k then 12 else if ob aq = some k then 13 else if ob aK = some k then 14 else 1) bd
  have bf : OwnSl 12 rep_api_Pair 59 ah ac af J.Attrs := RowF.adopt 12 flat_api_Pair bA G (fun k hk => if_pos hk)
  have bg : OwnSl 13 Rep.u 34 ah ac aq J.Hist.Pos.Counts := RowF.adopt 13 Flat.u bB G (fun k hk => (if_neg (fun (e : ob af = some k) => bD k e hk)).trans (if_pos hk))
  have bh : OwnSl 14 Rep.u 34 ah ac aK J.Hist.Neg.Counts := RowF.adopt 14 Flat.u bC G (fun k hk => (if_neg (fun (e : ob af = some k) => bE k e hk)).trans ((if_neg (fun (e : ob aq = some k) => bF k e hk)).trans (if_pos hk)))
  refine WL.alloc (O := ah) 15 [vs [], sn, vi 0, vi 0, vB false, vi 0, vi 0, vi 0, vu 0, vu 0, vi 0, vu 0, vi 0, sn, vi 0, sn, vi 0] ty41 z z ?_
  intro aL aM bQ j bi
  have ar := bf.st j z z z
  have bj := h
  obtain ⟨aN, aO, aP, rfl⟩ := ar.shape
  have h := bj
  have au := bg.st j z z z
  have bk := h
  obtain ⟨aQ, aR, aS, rfl⟩ := au.shape
  have h := bk
  have av := bh.st j z z z
  have bl := h
  obtain ⟨aT, aU, aW, rfl⟩ := av.shape
  have h := bl
  refine WL.store (v := ag (cp J (vl aN aO aP) (vl aQ aR aS) (vl aT aU aW))) (cells' := (cp J (vl aN aO aP) (vl aQ aR aS) (vl aT aU aW))) ty41 z z bi z (le_ z) z z ?_
  intro ad m p
  refine nl (th (sq (rg (wY (ym z) z ?_))))
  have q := ar.st m z z z
  have r := au.st m z z z
  have t := av.st m z z z
  have ai := ((((aY.st c z).st a z).st K z).st j z).st m z
  have aF := ((((aX.i c z z).i a z z).i K z z).i j z z).i m z z
  obtain ⟨⟨bR, M⟩, aG, h⟩ := bnd h
  refine WL.call (vals := [pt b0 0, pt aL 0]) kok32 z z (c_relabel_Rules_run (A := out [15, 12, 13, 14] aM) (a0 := a0) (a1 := J) (Sl.notin (L := [15, 12, 13, 14]) aF z z) ai.blk (out_lab ai.lab z) q.row r.row t.row p.blk (ne_lab q p.lab z) (ne_lab r p.lab z) (ne_lab t p.lab z) (ne_own q r z) (ne_own q t z) (ne_own r t z) (fun k hk => ⟨out_ne p.lab z k hk, out_neV (w := ad) q.labs z k hk, out_neV (w := ad) r.labs z k hk, out_neV (w := ad) t.labs z k hk⟩) aG) ?_
  rintro bH D ⟨H, P, ae, rfl, aH, bo, bp, bq, br, bs, bt, bu⟩
  obtain ⟨I, o, F, ax⟩ := adopt aM (fun k => if ob H = some k then 12 else if ob P = some k then 13 else if ob ae = some k then 14 else 1) [15, 12, 13, 14] aH (memOr (memB p.lab rfl) (memOr (memV q.labs rfl) (memOr (memV r.labs rfl) (memV t.labs rfl))))
  have bI : OwnSl 12 rep_api_Pair 59 I D H M.Attrs := RowG.adopt flat_api_Pair q.labs bo o F (fun k hk => if_pos hk)
  have bJ : OwnSl 13 Rep.u 34 I D P M.Hist.Pos.Counts := RowG.adopt Flat.u r.labs bp o F (fun k hk => (if_neg (fun (e : ob H = some k) => bs k e hk)).trans (if_pos hk))
  have bK : OwnSl 14 Rep.u 34 I D ae M.Hist.Neg.Counts := RowG.adopt Flat.u t.labs bq o F (fun k hk => (if_neg (fun (e : ob H = some k) => bt k e hk)).trans ((if_neg (fun (e : ob P = some k) => bu k e hk)).trans (if_pos hk)))
  have bL : Blk 15 I D aL 41 (cp M H P ae) := Blk.adopt p o br
  refine wY (ya z) z (nl (th (rt ?_)))
  obtain rfl := some1 h
  have aI : Stp [12, 13, 14, 15] (Lg.O0 A) w I D := (tr_ (su_ c z) (tr_ (su_ a z) (tr_ (su_ K z) (tr_ (su_ j z) (tr_ (su_ m z) (su_ ax z))))))
  exact At.res (.inl z) z (.tmp z .nil) ⟨z, (se_ aI z z)⟩
theorem c_law33_awake {A : Nat → Prop} {w : World} (hG0 : CellsAt w 0 0 [vi 0, vi 0]) (hGA0 : A 0) {r0 : Bool} (h : law33_awake = some r0) : Rets Tryd.prog 7 [] w (fun v w' => v = vB r0 ∧ Ext w w') := by
 unfold law33_awake at h
 refine Rets.enter Tryd.func7 z z ?_
 have cm : CAt [0, 1] (Lg.O0 A) w 0 0 [vi 0, vi 0] := CAt.glob hG0 (if_pos hGA0)
 refine (show WC _ _ _ _ [] _ from ?_)
 refine sq (rg (wY (ya z) z (nl (th (sq (rg (wY (yb (vals := [(0, vi 2), (2, vs [116, 109, 112, 46, 42])]) (cells := [vi 2, vs [], vs [116, 109, 112, 46, 42], vs [], vs []]) (fe_ z) (by kernel_rfl)) z (wY (yb (vals := [(0, vi 3), (2, vs [42]), (3, vs [101, 110, 118]), (4, vs [112, 114, 111, 100])]) (cells := [vi 3, vs [], vs [42], vs [101, 110, 118], vs [112, 114, 111, 100]]) (fe_ z) (by kernel_rfl)) z (WL.buildSlice (O := (Lg.O0 A)) (R := rep_api_Rule) (vals := [(0, Value.agg (List.toArray [vi 2, vs [], vs [116, 109, 112, 46, 42], vs [], vs []])), (1, Value.agg (List.toArray [vi 3, vs [], vs [42], vs [101, 110, 118], vs [112, 114, 111, 100]]))]) 11 [vi 2, vs [], vs [116, 109, 112, 46, 42], vs [], vs [], vi 3, vs [], vs [42], vs [101, 110, 118], vs [112, 114, 111, 100]] (xs := [(api_Rule.mk 2 [] [116, 109, 112, 46, 42] [] []), (api_Rule.mk 3 [] [42] [101, 110, 118] [112, 114, 111, 100])]) (by decide) ty22 ty28 (by decide) (by decide) (fe_ z) (by kernel_rfl) z ⟨[vi 2, vs [], vs [116, 109, 112, 46, 42], vs [], vs []], [vi 3, vs [], vs [42], vs [101, 110, 118], vs [112, 114, 111, 100]], z, ⟨[vi 2], [vs [], vs [116, 109, 112, 46, 42], vs [], vs []], z, z, ⟨[vs []], [vs [116, 109, 112, 46, 42], vs [], vs []], z, z, ⟨[vs [116, 109, 112, 46, 42]], [vs [], vs []], z, z, ⟨[vs []], [vs []], z, z, z⟩⟩⟩⟩, ⟨[vi 3, vs [], vs [42], vs [101, 110, 118], vs [112, 114, 111, 100]], [], z, ⟨[vi 3], [vs [], vs [42], vs [101, 110, 118], vs [112, 114, 111, 100]], z, z, ⟨[vs []], [vs [42], vs [101, 110, 118], vs [112, 114, 111, 100]], z, z, ⟨[vs [42]], [vs [101, 110, 118], vs [112, 114, 111, 100]], z, z, ⟨[vs [101, 110, 118]], [vs [112, 114, 111, 100]], z, z, z⟩⟩⟩⟩, z⟩⟩ z ?_)))))))))
 intro c7 c8 dD Z cn
 have aM := cm.st Z z
 obtain ⟨⟨D, dL, F⟩, co, h⟩ := bnd h
 refine WL.call (vals := [c7]) kok11 z z (c_relabel_Compile (A := fun _ => True) (cn.src.sl) aM.at_ trivial co) ?_
 rintro dE aN ⟨V, rfl, cq, ci⟩
 obtain ⟨aO, c9, au, aa⟩ := adoptE c8 (labP V 12) cq
 refine wY (ym z) z (wY (yx z z) z (wY (yx z z) z (wY (yx z z) z (wY (ya z) z (wY (ya z) z (wY (ya z) z (nl (th (sq ?_)))))))))
 refine rg (wY (yb (vals := [(0, vi 1), (2, vs [42])]) (cells := [vi 1, vs [], vs [42], vs [], vs []]) (fe_ z) (by kernel_rfl)) z (wY (yb (vals := [(0, vi 1), (2, vs [91])]) (cells := [vi 1, vs [], vs [91], vs [], vs []]) (fe_ z) (by kernel_rfl)) z (WL.buildSlice (O := aO) (R := rep_api_Rule) (vals := [(0, Value.agg (List.toArray [vi 1, vs [], vs [42], vs [], vs []])), (1, Value.agg (List.toArray [vi 1, vs [], vs [91], vs [], vs []]))]) 13 [vi 1, vs [], vs [42], vs [], vs [], vi 1, vs [], vs [91], vs [], vs []] (xs := [(api_Rule.mk 1 [] [42] [] []), (api_Rule.mk 1 [] [91] [] [])]) (by decide) ty22 ty28 (by decide) (by decide) (fe_ z) (by kernel_rfl) z ⟨[vi 1, vs [], vs [42], vs [], vs []], [vi 1, vs [], vs [91], vs [], vs []], z, ⟨[vi 1], [vs [], vs [42], vs [], vs []], z, z, ⟨[vs []], [vs [42], vs [], vs []], z, z, ⟨[vs [42]], [vs [], vs []], z, z, ⟨[vs []], [vs []], z, z, z⟩⟩⟩⟩, ⟨[vi 1, vs [], vs [91], vs [], vs []], [], z, ⟨[vi 1], [vs [], vs [91], vs [], vs []], z, z, ⟨[vs []], [vs [91], vs [], vs []], z, z, ⟨[vs [91]], [vs [], vs []], z, z, ⟨[vs []], [vs []], z, z, z⟩⟩⟩⟩, z⟩⟩ z ?_)))
 intro da db dF r cr
 have ct := (aM.st aa z).st r z
 obtain ⟨⟨dM, J, S⟩, cu, h⟩ := bnd h
 refine WL.call (vals := [da]) kok11 z z (c_relabel_Compile (A := fun _ => True) (cr.src.sl) ct.at_ trivial cu) ?_
 rintro dG ab ⟨dc, rfl, cw, dN⟩
 obtain ⟨aP, dd, de, H⟩ := adoptE db (labP dc 14) cw
 refine wY (ym z) z (wY (yx z z) z (wY (yx z z) z (wY (yx z z) z (wY (ya z) z (wY (ya z) z (wY (ya z) z (nl (th (sq ?_)))))))))
 refine sq (rg (wY (ym z) z (wY (Y.eql_opt ty29.u z z ci (fun d hd => by obtain ⟨_, _, e, _⟩ := hd; exact ⟨_, e⟩)) z (wY (ym z) z ?_))))
 refine WL.cut 3 (σ := Unit) (fun _ w' => ab = w') (fun _ => [(1, V), (5, vi J), (6, vi S), (34, vB (D.isNone || (!decide (F = 0))))]) ?_ ?_
 ·refine WL.part 31 z (fun ay => ?_) (fun ay => ?_)
  ·refine WL.gS z z z z (WL.gS z z z z (wY (Y.pick (b := true) z z) z (WL.ren (v' := vB (D.isNone || (!decide (F = 0)))) 34 z (congrArg vB (orT ay)) ?_)))
   exact nl (At.join () z (.cons z (.cons z (.cons z (.cons z .nil)))))
  ·refine ug z z (wY (ym z) z (ug z z (wY (Y.neq_i z z) z (wY (Y.pick (b := false) z z) z (WL.ren (v' := vB (D.isNone || (!decide (F = 0)))) 34 z (congrArg vB (orF ay)) ?_)))))
   exact nl (At.join () z (.cons z (.cons z (.cons z (.cons z .nil)))))
 ·rintro _ _ rfl
  refine (show WL _ _ _ _ _ [(1, V), (5, vi J), (6, vi S), (34, vB (D.isNone || (!decide (F = 0))))] _ from ?_)
  refine wY (ym z) z ?_
  refine WL.cut 3 (σ := Unit) (fun _ w' => ab = w') (fun _ => [(1, V), (6, vi S), (38, vB ((D.isNone || (!decide (F = 0))) || (!decide (J = 1))))]) ?_ ?_
  ·refine WL.part 35 z (fun az => ?_) (fun az => ?_)
   ·refine WL.gS z z z z (WL.gS z z z z (wY (Y.pick (b := true) z z) z (WL.ren (v' := vB ((D.isNone || (!decide (F = 0))) || (!decide (J = 1)))) 38 z (congrArg vB (orT az)) ?_)))
    exact nl (At.join () z (.cons z (.cons z (.cons z .nil))))
   ·refine ug z z (wY (ym z) z (ug z z (wY (Y.neq_i z z) z (wY (Y.pick (b := false) z z) z (WL.ren (v' := vB ((D.isNone || (!decide (F = 0))) || (!decide (J = 1)))) 38 z (congrArg vB (orF az)) ?_)))))
    exact nl (At.join () z (.cons z (.cons z (.cons z .nil))))
  ·rintro _ _ rfl
   refine (show WL _ _ _ _ _ [(1, V), (6, vi S), (38, vB ((D.isNone || (!decide (F = 0))) || (!decide (J = 1))))] _ from ?_)
   refine wY (ym z) z ?_
   refine WL.cut 3 (σ := Unit) (fun _ w' => ab = w') (fun _ => [(1, V), (42, vB (((D.isNone || (!decide (F = 0))) || (!decide (J = 1))) || (!decide (S = 2))))]) ?_ ?_
   ·refine WL.part 39 z (fun aA => ?_) (fun aA => ?_)
    ·refine WL.gS z z z z (WL.gS z z z z (wY (Y.pick (b := true) z z) z (WL.ren (v' := vB (((D.isNone || (!decide (F = 0))) || (!decide (J = 1))) || (!decide (S = 2)))) 42 z (congrArg vB (orT aA)) ?_)))
     exact nl (At.join () z (.cons z (.cons z .nil)))
    ·refine ug z z (wY (ym z) z (ug z z (wY (Y.neq_i z z) z (wY (Y.pick (b := false) z z) z (WL.ren (v' := vB (((D.isNone || (!decide (F = 0))) || (!decide (J = 1))) || (!decide (S = 2)))) 42 z (congrArg vB (orF aA)) ?_)))))
     exact nl (At.join () z (.cons z (.cons z .nil)))
   ·rintro _ _ rfl
    refine (show WL _ _ _ _ _ [(1, V), (42, vB (((D.isNone || (!decide (F = 0))) || (!decide (J = 1))) || (!decide (S = 2))))] _ from ?_)
    refine wY (ym z) z ?_
    obtain ⟨av, cx, h⟩ := bnd h
    obtain ⟨j, cj, rfl, cy, df⟩ := OptP.some ci cx
    have aQ : Sl rep_relabel_rule aN (frs aO) cj av.l := Sl.adoptF df (fun k hk => ⟨hk.1, labP_ne hk.2⟩) au
    have aR : Blk 12 aO aN j 71 [cj] := Blk.new cy au (labP_at j 12)
    obtain ⟨dg, h, cz⟩ := bnd h
    refine WL.cut 4 (σ := (Bool × Own)) (fun x w' => x.1 = dg ∧ Stp [] aP ab x.2 w') (fun x => [(1, pt j 0), (47, vB x.1)]) ?_ ?_
    ·rcases cnd h with ⟨aC, h⟩ | ⟨aC, h⟩
     ·refine WL.ren 43 z (congrArg vB aC) (WL.gS z z z z (WL.gS z z z z (WL.gS z z z z (wY (Y.pick (b := true) z z) z ?_))))
      exact nl (At.join (σ := (Bool × Own)) (true, aP) ⟨some1 h, (sr_ _ _ _)⟩ (.cons z (.cons z .nil)))
     ·refine WL.ren 43 z (congrArg vB aC) (ug z z (wY (ym z) z (ug z z ?_)))
      have cC := (aR.st r z).st H z
      have cE := (aQ.f r z).f H z
      obtain ⟨dh, cF, h⟩ := bnd h
      refine WL.call (vals := [pt j 0]) kok12 z z (c_relabel_Rules_Len (A := fun _ => True) (a0 := av) (Sl.all cE) cC.blk trivial cF) ?_
      rintro dH dI ⟨rfl, cG⟩
      obtain ⟨di, dj, dk, bl⟩ := adoptE aP (fun k => 1) cG
      refine ug z z (wY (Y.neq_i z z) z (wY (Y.pick (b := false) z z) z ?_))
      exact nl (At.join (σ := (Bool × Own)) ((!decide (dh = 2)), di) ⟨some1 h, (su_ bl z)⟩ (.cons z (.cons z .nil)))
    ·rintro ⟨dl, ck⟩ cH ⟨rfl, K⟩
     replace h := cz
     try dsimp only at h K
     refine (show WL _ _ _ _ _ [(1, pt j 0), (47, vB dl)] _ from ?_)
     refine nl (th ?_)
     rcases cnd h with ⟨aD, h⟩ | ⟨aD, h⟩
     ·refine WC.condT' z aD (sq (rg (wY (ya z) z (nl (th (rt (At.thenR ?_)))))))
      obtain rfl := some1 h
      have cI : Stp [] (Lg.O0 A) w ck cH := (tr_ (su_ Z z) (tr_ (su_ aa z) (tr_ (su_ r z) (tr_ (su_ H z) (su_ K z)))))
      exact At.res (.inl z) z (.tmp z .nil) ⟨z, (se_ cI z z)⟩
     ·refine WC.condF' z aD (sk (th (sq (rg (wY (ym z) z (wY (yb (vals := [(0, vs [97]), (2, vi 3)]) (cells := [vs [97], sn, vi 3, vi 0, vB false, vi 0, vi 0, vi 0, vu 0, vu 0, vi 0, vu 0, vi 0, sn, vi 0, sn, vi 0]) (fe_ z) (by kernel_rfl)) z ?_))))))
      have aS := ((aR.st r z).st H z).st K z
      have aT := ((aQ.f r z).f H z).f K z
      obtain ⟨⟨M, T, U⟩, cN, h⟩ := bnd h
      refine WL.call (vals := [pt j 0, Value.agg (List.toArray [vs [97], sn, vi 3, vi 0, vB false, vi 0, vi 0, vi 0, vu 0, vu 0, vi 0, vu 0, vi 0, sn, vi 0, sn, vi 0])]) kok14 z z (c_relabel_Rules_Apply (A := fun _ => True) (a0 := av) (a1 := (api_Point.mk [97] [] 3 0 false 0 0 0 0 0 (api_Hist.mk 0 0 (api_Side.mk 0 []) (api_Side.mk 0 [])) 0)) (Sl.all aT) aS.blk trivial (Or.inl ⟨z, z⟩) (Or.inl ⟨z, z⟩) (Or.inl ⟨z, z⟩) cN) ?_
      rintro dt ac ⟨aG, aU, cl, rfl, bm, dm, dn, dp, dr, cO, cP⟩
      obtain ⟨ad, c3, P, W⟩ := adoptE ck (fun k => if ob aG = some k then 15 else if ob aU = some k then 16 else if ob cl = some k then 17 else 1) bm
      have bn : OwnSl 15 rep_api_Pair 59 ad ac aG M.Attrs := RowF.adopt 15 flat_api_Pair dm P (fun k hk => if_pos hk)
      have bo : OwnSl 16 Rep.u 34 ad ac aU M.Hist.Pos.Counts := RowF.adopt 16 Flat.u dn P (fun k hk => (if_neg (fun (e : ob aG = some k) => dr k e hk)).trans (if_pos hk))
      have bp : OwnSl 17 Rep.u 34 ad ac cl M.Hist.Neg.Counts := RowF.adopt 17 Flat.u dp P (fun k hk => (if_neg (fun (e : ob aG = some k) => cO k e hk)).trans ((if_neg (fun (e : ob aU = some k) => cP k e hk)).trans (if_pos hk)))
      refine wY (ym z) z (wY (yx z z) z (wY (yx z z) z (wY (yx z z) z (WL.alloc (O := ad) 18 [vs [], sn, vi 0, vi 0, vB false, vi 0, vi 0, vi 0, vu 0, vu 0, vi 0, vu 0, vi 0, sn, vi 0, sn, vi 0] ty41 z z ?_))))
      intro ae cQ du q bq
      have af := bn.st q z z z
      have br := h
      obtain ⟨aW, aX, aY, rfl⟩ := af.shape
      have h := br
      have bs := bo.st q z z z
      have bt := h
      obtain ⟨aZ, a2, a3, rfl⟩ := bs.shape
      have h := bt
      have bu := bp.st q z z z
      have bw := h
      obtain ⟨a4, a5, a6, rfl⟩ := bu.shape
      have h := bw
      refine WL.store (v := ag (cp M (vl aW aX aY) (vl aZ a2 a3) (vl a4 a5 a6))) (cells' := (cp M (vl aW aX aY) (vl aZ a2 a3) (vl a4 a5 a6))) ty41 z z bq z (le_ z) z z ?_
      intro dw G aH
      refine wY (ya z) z (wY (ya z) z (nl (th (sq (rg (wY (ym z) z (wY (yb (vals := [(0, vs [116, 109, 112, 46, 97]), (2, vi 3)]) (cells := [vs [116, 109, 112, 46, 97], sn, vi 3, vi 0, vB false, vi 0, vi 0, vi 0, vu 0, vu 0, vi 0, vu 0, vi 0, sn, vi 0, sn, vi 0]) (fe_ z) (by kernel_rfl)) z ?_)))))))
      have aI := ((aS.st W z).st q z).st G z
      have aJ := ((aT.f W z).f q z).f G z
      obtain ⟨⟨X, c, m⟩, bC, h⟩ := bnd h
      refine WL.call (vals := [pt j 0, Value.agg (List.toArray [vs [116, 109, 112, 46, 97], sn, vi 3, vi 0, vB false, vi 0, vi 0, vi 0, vu 0, vu 0, vi 0, vu 0, vi 0, sn, vi 0, sn, vi 0])]) kok14 z z (c_relabel_Rules_Apply (A := fun _ => True) (a0 := av) (a1 := (api_Point.mk [116, 109, 112, 46, 97] [] 3 0 false 0 0 0 0 0 (api_Hist.mk 0 0 (api_Side.mk 0 []) (api_Side.mk 0 [])) 0)) (Sl.all aJ) aI.blk trivial (Or.inl ⟨z, z⟩) (Or.inl ⟨z, z⟩) (Or.inl ⟨z, z⟩) bC) ?_
      rintro dx ah ⟨ai, aE, a7, rfl, bD, cR, cS, cT, cU, cV, cW⟩
      obtain ⟨aj, c4, Q, o⟩ := adoptE cQ (fun k => if ob ai = some k then 19 else if ob aE = some k then 20 else if ob a7 = some k then 21 else 1) bD
      have bE : OwnSl 19 rep_api_Pair 59 aj ah ai X.Attrs := RowF.adopt 19 flat_api_Pair cR Q (fun k hk => if_pos hk)
      have bF : OwnSl 20 Rep.u 34 aj ah aE X.Hist.Pos.Counts := RowF.adopt 20 Flat.u cS Q (fun k hk => (if_neg (fun (e : ob ai = some k) => cU k e hk)).trans (if_pos hk))
      have bG : OwnSl 21 Rep.u 34 aj ah a7 X.Hist.Neg.Counts := RowF.adopt 21 Flat.u cT Q (fun k hk => (if_neg (fun (e : ob ai = some k) => cV k e hk)).trans ((if_neg (fun (e : ob aE = some k) => cW k e hk)).trans (if_pos hk)))
      refine wY (ym z) z (wY (yx z z) z (wY (yx z z) z (wY (yx z z) z (WL.alloc (O := aj) 22 [vs [], sn, vi 0, vi 0, vB false, vi 0, vi 0, vi 0, vu 0, vu 0, vi 0, vu 0, vi 0, sn, vi 0, sn, vi 0] ty41 z z ?_))))
      intro dJ aF dy a bH
      have bI := bE.st a z z z
      have bJ := h
      obtain ⟨a8, a9, ba, rfl⟩ := bI.shape
      have h := bJ
      have bK := bF.st a z z z
      have bL := h
      obtain ⟨bb, bc, bd, rfl⟩ := bK.shape
      have h := bL
      have bM := bG.st a z z z
      have bO := h
      obtain ⟨bf, bg, bh, rfl⟩ := bM.shape
      have h := bO
      refine WL.store (v := ag (cp X (vl a8 a9 ba) (vl bb bc bd) (vl bf bg bh))) (cells' := (cp X (vl a8 a9 ba) (vl bb bc bd) (vl bf bg bh))) ty41 z z bH z (le_ z) z z ?_
      intro I p dz
      refine wY (ya z) z (wY (ya z) z (nl (th (sq (rg (wY (ym z) z (wY (ym z) z ?_)))))))
      refine WL.cut 3 (σ := Unit) (fun _ w' => I = w') (fun _ => [(1, pt j 0), (7, pt ae 0), (11, vB c), (12, vi m), (66, vB (T && (decide (U = 0))))]) ?_ ?_
      ·refine WL.part 63 z (fun ak => ?_) (fun ak => ?_)
       ·refine ug z z (wY (ym z) z (ug z z (wY (Y.eql_i z z) z (wY (Y.pick (b := true) z z) z (WL.ren (v' := vB (T && (decide (U = 0)))) 66 z (congrArg vB (andT ak)) ?_)))))
        exact nl (At.join () z (.cons z (.cons z (.cons z (.cons z (.cons z .nil))))))
       ·refine WL.gS z z z z (WL.gS z z z z (wY (Y.pick (b := false) z z) z (WL.ren (v' := vB (T && (decide (U = 0)))) 66 z (congrArg vB (andF ak)) ?_)))
        exact nl (At.join () z (.cons z (.cons z (.cons z (.cons z (.cons z .nil))))))
      ·rintro _ _ rfl
       refine (show WL _ _ _ _ _ [(1, pt j 0), (7, pt ae 0), (11, vB c), (12, vi m), (66, vB (T && (decide (U = 0))))] _ from ?_)
       refine wY (ym z) z ?_
       refine WL.cut 5 (σ := Unit) (fun _ w' => I = w') (fun _ => [(1, pt j 0), (7, pt ae 0), (11, vB c), (12, vi m), (72, vB ((T && (decide (U = 0))) && (decide ((M.Attrs.length : Int) = 1))))]) ?_ ?_
       ·refine WL.part 67 z (fun al => ?_) (fun al => ?_)
        ·refine ug z z (wY (yf fo41_1 z) z (ug z z ?_))
         have bR := ((aH.st o z).st a z).st p z
         refine wY (yl ty33 z z (bR.cell 1 _ z)) z (ug z z ?_)
         have bW := (((af.st G z z z).st o z z z).st a z z z).st p z z z
         refine wY (Y.len ty33 z bW.src.sl) z (ug z z (wY (Y.eql_i z z) z (wY (Y.pick (b := true) z z) z (WL.ren (v' := vB ((T && (decide (U = 0))) && (decide ((M.Attrs.length : Int) = 1)))) 72 z (congrArg vB (andT al)) ?_))))
         exact nl (At.join () z (.cons z (.cons z (.cons z (.cons z (.cons z .nil))))))
        ·refine WL.gS z z z z (WL.gS z z z z (WL.gS z z z z (WL.gS z z z z (wY (Y.pick (b := false) z z) z (WL.ren (v' := vB ((T && (decide (U = 0))) && (decide ((M.Attrs.length : Int) = 1)))) 72 z (congrArg vB (andF al)) ?_)))))
         exact nl (At.join () z (.cons z (.cons z (.cons z (.cons z (.cons z .nil))))))
       ·rintro _ _ rfl
        refine (show WL _ _ _ _ _ [(1, pt j 0), (7, pt ae 0), (11, vB c), (12, vi m), (72, vB ((T && (decide (U = 0))) && (decide ((M.Attrs.length : Int) = 1))))] _ from ?_)
        refine wY (ym z) z ?_
        obtain ⟨cX, h, bX⟩ := bnd h
        refine WL.cut 7 (σ := Bool) (fun x w' => x = cX ∧ I = w') (fun x => [(1, pt j 0), (11, vB c), (12, vi m), (80, vB x)]) ?_ ?_
        ·rcases cnd h with ⟨am, h⟩ | ⟨am, h⟩
         ·refine WL.ren 73 z (congrArg vB am) (ug z z (wY (yf fo41_1 z) z (ug z z ?_)))
          have b0 := ((aH.st o z).st a z).st p z
          refine wY (yl ty33 z z (b0.cell 1 _ z)) z (ug z z ?_)
          obtain ⟨an, b1, h⟩ := bnd h
          have aK := (((af.st G z z z).st o z z z).st a z z z).st p z z z
          obtain ⟨dK, ds, dA, aL, b5, b6, ao, bi⟩ := OwnSl.at aK b1
          obtain ⟨_, _, rfl, rfl, rfl⟩ := bi
          replace ao : CellsAt _ _ _ [vs an.Key, vs an.Val] := ao
          have bj := CAt.own aK aL ao
          refine wY (Y.indexAddr ty33 ty59 z aL z b5 b6) z (ug z z (wY (yf fo59_1 z) z (ug z z (wY (yl ty9 z z (bj.at_.sub 1 [vs an.Val] z)) z (ug z z (wY (Y.eql_s (b := [112, 114, 111, 100]) z z) z (wY (Y.pick (b := true) z z) z ?_)))))))
          exact nl (At.join (σ := Bool) (decide (an.Val = [112, 114, 111, 100])) ⟨some1 h, z⟩ (.cons z (.cons z (.cons z (.cons z .nil)))))
         ·refine WL.ren 73 z (congrArg vB am) (WL.gS z z z z (WL.gS z z z z (WL.gS z z z z (WL.gS z z z z (WL.gS z z z z (WL.gS z z z z (wY (Y.pick (b := false) z z) z ?_)))))))
          exact nl (At.join (σ := Bool) false ⟨some1 h, z⟩ (.cons z (.cons z (.cons z (.cons z .nil)))))
        ·rintro t _ ⟨rfl, rfl⟩
         replace h := bX
         try dsimp only at h
         refine (show WL _ _ _ _ _ [(1, pt j 0), (11, vB c), (12, vi m), (80, vB t)] _ from ?_)
         refine wY (ym z) z ?_
         refine WL.cut 3 (σ := Unit) (fun _ w' => I = w') (fun _ => [(1, pt j 0), (12, vi m), (84, vB (t && (!c)))]) ?_ ?_
         ·refine WL.part 81 z (fun ap => ?_) (fun ap => ?_)
          ·refine ug z z (wY (ym z) z (ug z z (wY (Y.not z) z (wY (Y.pick (b := true) z z) z (WL.ren (v' := vB (t && (!c))) 84 z (congrArg vB (andT ap)) ?_)))))
           exact nl (At.join () z (.cons z (.cons z (.cons z .nil))))
          ·refine WL.gS z z z z (WL.gS z z z z (wY (Y.pick (b := false) z z) z (WL.ren (v' := vB (t && (!c))) 84 z (congrArg vB (andF ap)) ?_)))
           exact nl (At.join () z (.cons z (.cons z (.cons z .nil))))
         ·rintro _ _ rfl
          refine (show WL _ _ _ _ _ [(1, pt j 0), (12, vi m), (84, vB (t && (!c)))] _ from ?_)
          refine wY (ym z) z ?_
          refine WL.cut 3 (σ := Unit) (fun _ w' => I = w') (fun _ => [(1, pt j 0), (88, vB ((t && (!c)) && (decide (m = 0))))]) ?_ ?_
          ·refine WL.part 85 z (fun aq => ?_) (fun aq => ?_)
           ·refine ug z z (wY (ym z) z (ug z z (wY (Y.eql_i z z) z (wY (Y.pick (b := true) z z) z (WL.ren (v' := vB ((t && (!c)) && (decide (m = 0)))) 88 z (congrArg vB (andT aq)) ?_)))))
            exact nl (At.join () z (.cons z (.cons z .nil)))
           ·refine WL.gS z z z z (WL.gS z z z z (wY (Y.pick (b := false) z z) z (WL.ren (v' := vB ((t && (!c)) && (decide (m = 0)))) 88 z (congrArg vB (andF aq)) ?_)))
            exact nl (At.join () z (.cons z (.cons z .nil)))
          ·rintro _ _ rfl
           refine (show WL _ _ _ _ _ [(1, pt j 0), (88, vB ((t && (!c)) && (decide (m = 0))))] _ from ?_)
           refine wY (ym z) z ?_
           obtain ⟨cY, h, b7⟩ := bnd h
           refine WL.cut 5 (σ := (Bool × Own)) (fun x w' => x.1 = cY ∧ Stp [] aF I x.2 w') (fun x => [(94, vB x.1)]) ?_ ?_
           ·rcases cnd h with ⟨ar, h⟩ | ⟨ar, h⟩
            ·refine WL.ren 89 z (congrArg vB ar) (ug z z (wY (ym z) z (ug z z (wY (yb (vals := [(0, vs [116, 109, 112, 46, 97]), (2, vi 3)]) (cells := [vs [116, 109, 112, 46, 97], sn, vi 3, vi 0, vB false, vi 0, vi 0, vi 0, vu 0, vu 0, vi 0, vu 0, vi 0, sn, vi 0, sn, vi 0]) (fe_ z) (by kernel_rfl)) z (ug z z ?_)))))
             have ca := ((aI.st o z).st a z).st p z
             have cd := ((aJ.f o z).f a z).f p z
             obtain ⟨cZ, ce, h⟩ := bnd h
             refine WL.call (vals := [pt j 0, Value.agg (List.toArray [vs [116, 109, 112, 46, 97], sn, vi 3, vi 0, vB false, vi 0, vi 0, vi 0, vu 0, vu 0, vi 0, vu 0, vi 0, sn, vi 0, sn, vi 0])]) kok20 z z (c_relabel_Rules_Stop (A := fun _ => True) (a0 := av) (a1 := (api_Point.mk [116, 109, 112, 46, 97] [] 3 0 false 0 0 0 0 0 (api_Hist.mk 0 0 (api_Side.mk 0 []) (api_Side.mk 0 [])) 0)) (Sl.all cd) ca.blk trivial (Or.inl ⟨z, z⟩) (Or.inl ⟨z, z⟩) (Or.inl ⟨z, z⟩) ce) ?_
             rintro dB dC ⟨rfl, cf⟩
             obtain ⟨c0, c5, c6, bk⟩ := adoptE aF (fun k => 1) cf
             refine ug z z (wY (Y.eql_i z z) z (wY (Y.pick (b := true) z z) z ?_))
             exact nl (At.join (σ := (Bool × Own)) (decide (cZ = 0), c0) ⟨some1 h, (su_ bk z)⟩ (.cons z .nil))
            ·refine WL.ren 89 z (congrArg vB ar) (WL.gS z z z z (WL.gS z z z z (WL.gS z z z z (WL.gS z z z z (wY (Y.pick (b := false) z z) z ?_)))))
             exact nl (At.join (σ := (Bool × Own)) (false, aF) ⟨some1 h, (sr_ _ _ _)⟩ (.cons z .nil))
           ·rintro ⟨c1, c2⟩ cg ⟨rfl, ax⟩
            replace h := b7
            try dsimp only at h ax
            refine (show WL _ _ _ _ _ [(94, vB c1)] _ from ?_)
            refine wY (ya z) z (nl (th (rt ?_)))
            obtain rfl := some1 h
            have ch : Stp [18, 22] (Lg.O0 A) w c2 cg := (tr_ (su_ Z z) (tr_ (su_ aa z) (tr_ (su_ r z) (tr_ (su_ H z) (tr_ (su_ K z) (tr_ (su_ W z) (tr_ (su_ q z) (tr_ (su_ G z) (tr_ (su_ o z) (tr_ (su_ a z) (tr_ (su_ p z) (su_ ax z))))))))))))
            exact At.res (.inl z) z (.tmp z .nil) ⟨z, (se_ ch z z)⟩
theorem c_ref33_Few {A : Nat → Prop} {a0 : List api_Rule} {v0 : Value} {w : World} (hs0 : Sl rep_api_Rule w A v0 a0) {r0 : Bool} (h : ref33_Few a0 = some r0) : Rets Tryd.prog 8 [v0] w (fun v w' => v = vB r0 ∧ Ext w w') := by
 unfold ref33_Few at h
 refine Rets.enter Tryd.func8 z z ?_
 have a : Sl rep_api_Rule w (imm (Lg.O0 A)) v0 a0 := (Sl.start hs0)
 refine (show WC _ _ _ _ [(0, v0)] _ from ?_)
 refine sq (rg (wY (ya z) z (nl (th (sq (sq (rg (wY (ym z) z (wY (Y.len ty22 z a) z ?_)))))))))
 refine wY (Y.gtr_i z z) z (nl (th ?_))
 rcases cnd h with ⟨q, h⟩ | ⟨q, h⟩
 ·refine WC.condT' z q (sq (rg (wY (ya z) z (nl (th (rt (At.thenR ?_)))))))
  obtain rfl := some1 h
  have ac : Stp [] (Lg.O0 A) w (Lg.O0 A) w := (sr_ _ _ _)
  exact At.res (.inl z) z (.tmp z .nil) ⟨z, (se_ ac z z)⟩
 ·refine WC.condF' z q (sk (th (sq (sq (rg (wY (ya z) z (nl (th (WC.block ?_)))))))))
  obtain ⟨aa, h, P⟩ := flow1 h
  obtain ⟨ab, h⟩ := loop_some h
  refine WC.joinB 0 (σ := Unit) (fun x w' => aa = .go () ∧ w = w') (fun x => []) ?_ ?_
  ·refine WC.loop (σ := Int) (fun x k w' => loopN k (ref33_Few_lp1 a0) x = some aa ∧ w = w') (fun x => [(0, v0), (3, vi x)]) 0 ab (.cons z (.cons z .nil)) ⟨h, z⟩ ?_
   rintro c ab _ ⟨h, rfl⟩
   obtain ⟨aI, a4, rfl, h, r⟩ := rnd1 h
   unfold ref33_Few_lp1 at h
   try dsimp only at h
   refine (show WC _ _ _ _ [(0, v0), (3, vi c)] _ from ?_)
   refine sq (sq (rg (wY (ym z) z (wY (ym z) z (wY (Y.len ty22 z a) z (wY (Y.lss_i z z) z (nl (th ?_))))))))
   rcases cnd h with ⟨t, h⟩ | ⟨t, h⟩
   ·refine WC.condT' z t (sk (th (sq (WC.block (sq (rg (wY (ym z) z (wY (ym z) z ?_))))))))
    obtain ⟨p, ad, h⟩ := bnd h
    obtain ⟨a5, aQ, aR, aZ, ae, af, ah, D, Q, ai⟩ := Sl.at2 a ad
    obtain ⟨_, _, rfl, rfl, ⟨_, _, rfl, rfl, ⟨_, _, rfl, rfl, ⟨_, _, rfl, rfl, rfl⟩⟩⟩⟩ := Q
    replace D : CellsAt _ _ _ [vi p.Kind, vs p.Key, vs p.Glob, vs p.To, vs p.Val] := D
    have S := CAt.imm D ai
    refine wY (Y.indexAddr ty22 ty28 z ae z af ah) z (wY (yf fo28_2 z) z (wY (yl ty9 z z (S.at_.sub 2 [vs p.Glob] z)) z (wY (Y.len_s ty9 z) z (wY (Y.gtr_i z z) z (wY (ym z) z ?_)))))
    obtain ⟨aJ, h, aj⟩ := bnd h
    refine WL.cut 8 (σ := Bool) (fun x w' => x = aJ ∧ w = w') (fun x => [(0, v0), (3, vi c), (28, vB x)]) ?_ ?_
    ·rcases cnd h with ⟨F, h⟩ | ⟨F, h⟩
     ·refine WL.ren 20 z (congrArg vB F) (WL.gS z z z z (WL.gS z z z z (WL.gS z z z z (WL.gS z z z z (WL.gS z z z z (WL.gS z z z z (WL.gS z z z z (wY (Y.pick (b := true) z z) z ?_))))))))
      exact nl (At.join (σ := Bool) true ⟨some1 h, z⟩ (.cons z (.cons z (.cons z .nil))))
     ·refine WL.ren 20 z (congrArg vB F) (ug z z (wY (ym z) z (ug z z (wY (ym z) z (ug z z ?_)))))
      obtain ⟨j, ak, h⟩ := bnd h
      obtain ⟨a6, aS, aT, a1, al, am, an, G, T, ao⟩ := Sl.at2 a ak
      obtain ⟨_, _, rfl, rfl, ⟨_, _, rfl, rfl, ⟨_, _, rfl, rfl, ⟨_, _, rfl, rfl, rfl⟩⟩⟩⟩ := T
      replace G : CellsAt _ _ _ [vi j.Kind, vs j.Key, vs j.Glob, vs j.To, vs j.Val] := G
      have U := CAt.imm G ao
      refine wY (Y.indexAddr ty22 ty28 z al z am an) z (ug z z (wY (yf fo28_1 z) z (ug z z (wY (yl ty9 z z (U.at_.sub 1 [vs j.Key] z)) z (ug z z (wY (Y.len_s ty9 z) z (ug z z (wY (Y.gtr_i z z) z (wY (Y.pick (b := false) z z) z ?_)))))))))
      exact nl (At.join (σ := Bool) (decide (100 < (j.Key.length : Int))) ⟨some1 h, z⟩ (.cons z (.cons z (.cons z .nil))))
    ·rintro aK _ ⟨rfl, rfl⟩
     replace h := aj
     try dsimp only at h
     refine (show WL _ _ _ _ _ [(0, v0), (3, vi c), (28, vB aK)] _ from ?_)
     refine wY (ym z) z ?_
     obtain ⟨aL, h, ap⟩ := bnd h
     refine WL.cut 8 (σ := Bool) (fun x w' => x = aL ∧ w = w') (fun x => [(0, v0), (3, vi c), (37, vB x)]) ?_ ?_
     ·rcases cnd h with ⟨H, h⟩ | ⟨H, h⟩
      ·refine WL.ren 29 z (congrArg vB H) (WL.gS z z z z (WL.gS z z z z (WL.gS z z z z (WL.gS z z z z (WL.gS z z z z (WL.gS z z z z (WL.gS z z z z (wY (Y.pick (b := true) z z) z ?_))))))))
       exact nl (At.join (σ := Bool) true ⟨some1 h, z⟩ (.cons z (.cons z (.cons z .nil))))
      ·refine WL.ren 29 z (congrArg vB H) (ug z z (wY (ym z) z (ug z z (wY (ym z) z (ug z z ?_)))))
       obtain ⟨m, aq, h⟩ := bnd h
       obtain ⟨a7, aU, aW, a2, ar, au, av, I, V, ax⟩ := Sl.at2 a aq
       obtain ⟨_, _, rfl, rfl, ⟨_, _, rfl, rfl, ⟨_, _, rfl, rfl, ⟨_, _, rfl, rfl, rfl⟩⟩⟩⟩ := V
       replace I : CellsAt _ _ _ [vi m.Kind, vs m.Key, vs m.Glob, vs m.To, vs m.Val] := I
       have W := CAt.imm I ax
       refine wY (Y.indexAddr ty22 ty28 z ar z au av) z (ug z z (wY (yf fo28_3 z) z (ug z z (wY (yl ty9 z z (W.at_.sub 3 [vs m.To] z)) z (ug z z (wY (Y.len_s ty9 z) z (ug z z (wY (Y.gtr_i z z) z (wY (Y.pick (b := false) z z) z ?_)))))))))
       exact nl (At.join (σ := Bool) (decide (100 < (m.To.length : Int))) ⟨some1 h, z⟩ (.cons z (.cons z (.cons z .nil))))
     ·rintro aM _ ⟨rfl, rfl⟩
      replace h := ap
      try dsimp only at h
      refine (show WL _ _ _ _ _ [(0, v0), (3, vi c), (37, vB aM)] _ from ?_)
      refine wY (ym z) z ?_
      obtain ⟨aN, h, ay⟩ := bnd h
      refine WL.cut 8 (σ := Bool) (fun x w' => x = aN ∧ w = w') (fun x => [(0, v0), (3, vi c), (46, vB x)]) ?_ ?_
      ·rcases cnd h with ⟨J, h⟩ | ⟨J, h⟩
       ·refine WL.ren 38 z (congrArg vB J) (WL.gS z z z z (WL.gS z z z z (WL.gS z z z z (WL.gS z z z z (WL.gS z z z z (WL.gS z z z z (WL.gS z z z z (wY (Y.pick (b := true) z z) z ?_))))))))
        exact nl (At.join (σ := Bool) true ⟨some1 h, z⟩ (.cons z (.cons z (.cons z .nil))))
       ·refine WL.ren 38 z (congrArg vB J) (ug z z (wY (ym z) z (ug z z (wY (ym z) z (ug z z ?_)))))
        obtain ⟨o, az, h⟩ := bnd h
        obtain ⟨a8, aX, aY, a3, aA, aC, aD, K, X, aE⟩ := Sl.at2 a az
        obtain ⟨_, _, rfl, rfl, ⟨_, _, rfl, rfl, ⟨_, _, rfl, rfl, ⟨_, _, rfl, rfl, rfl⟩⟩⟩⟩ := X
        replace K : CellsAt _ _ _ [vi o.Kind, vs o.Key, vs o.Glob, vs o.To, vs o.Val] := K
        have Z := CAt.imm K aE
        refine wY (Y.indexAddr ty22 ty28 z aA z aC aD) z (ug z z (wY (yf fo28_4 z) z (ug z z (wY (yl ty9 z z (Z.at_.sub 4 [vs o.Val] z)) z (ug z z (wY (Y.len_s ty9 z) z (ug z z (wY (Y.gtr_i z z) z (wY (Y.pick (b := false) z z) z ?_)))))))))
        exact nl (At.join (σ := Bool) (decide (100 < (o.Val.length : Int))) ⟨some1 h, z⟩ (.cons z (.cons z (.cons z .nil))))
      ·rintro aO _ ⟨rfl, rfl⟩
       replace h := ay
       try dsimp only at h
       refine (show WL _ _ _ _ _ [(0, v0), (3, vi c), (46, vB aO)] _ from ?_)
       refine nl (th ?_)
       rcases cnd h with ⟨M, h⟩ | ⟨M, h⟩
       ·refine WC.condT' z M (sq (rg (wY (ya z) z (nl (th (rt (At.inBlockR (At.thenR (At.loopR ?_)))))))))
        have h := outr1 h r P
        refine At.joinBR (At.inBlockR (At.thenR ?_))
        obtain rfl := some1 h
        have aF : Stp [] (Lg.O0 A) w (Lg.O0 A) w := (sr_ _ _ _)
        exact At.res (.inl z) z (.tmp z .nil) ⟨z, (se_ aF z z)⟩
       ·refine WC.condF' z M (sk (At.inBlock (th (rg (wY (ym z) z (wY (Y.add_i z z) z ?_))))))
        obtain ⟨aP, aG, h⟩ := lt1 h
        refine WL.yE (ya z) (congrArg vi aG.symm) z (nl ?_)
        exact At.round aP aI (Nat.lt_succ_self _) ⟨next1 h r, z⟩ (.cons z (.cons z .nil))
   ·refine WC.condF' z t (WC.exit (At.thenX (At.loopX ?_)))
    exact At.hitB (σ := Unit) () ⟨brk1 h r, z⟩ .nil
  ·rintro _ _ ⟨rfl, rfl⟩
   replace h := flowK_go P
   refine (show At _ _ _ [] _ from ?_)
   refine At.inBlockHit (th (sq (rg (wY (ya z) z (nl (th (rt ?_)))))))
   obtain rfl := some1 h
   have aH : Stp [] (Lg.O0 A) w (Lg.O0 A) w := (sr_ _ _ _)
   exact At.res (.inl z) z (.tmp z .nil) ⟨z, (se_ aH z z)⟩
theorem c_ref32_nothing {a0 : Bool} {w : World} {r0 : List Bool} (h : ref32_nothing a0 = some r0) : Rets Tryd.prog 47 [vB a0] w (fun v w' => ∃ (X : Value), v = X ∧ Ext w w' ∧ RowF Rep.B 4 w w' X r0) := by
 unfold ref32_nothing at h
 refine Rets.enter Tryd.func47 z z ?_
 refine (show WC _ _ _ _ [(0, vB a0)] _ from ?_)
 refine sq (rg (wY (ya z) z (nl (th (sq (rg (wY (ya z) z (nl (th ?_)))))))))
 refine sq (sq (rg (wY (ya z) z (nl (th (WC.block ?_))))))
 obtain ⟨H, h, M⟩ := flow1 h
 obtain ⟨I, h⟩ := loop_some h
 refine WC.joinB 0 (σ := (List Bool × Own × Value)) (fun x w' => H = .go x.1 ∧ Stp [12, 1001] (Lg.O0 (fun _ => False)) w x.2.1 w' ∧ OwnSl 1002 Rep.B 4 x.2.1 w' x.2.2 x.1) (fun x => [(3, x.2.2)]) ?_ ?_
 ·refine WC.loop (σ := (List Bool × Int × Own × Value)) (fun x k w' => loopN k (ref32_nothing_lp1 a0) (x.1, x.2.1) = some H ∧ Stp [12, 1001] (Lg.O0 (fun _ => False)) w x.2.2.1 w' ∧ OwnSl 1001 Rep.B 4 x.2.2.1 w' x.2.2.2 x.1) (fun x => [(0, vB a0), (3, x.2.2.2), (4, vi x.2.1)]) ([], 0, (Lg.O0 (fun _ => False)), sn) I (.cons z (.cons z (.cons z .nil))) ⟨h, (sr_ _ _ _), (OwnSl.nil 1001 Rep.B 4)⟩ ?_
  rintro ⟨t, Z, aa, J⟩ I aj ⟨h, a, c⟩
  obtain ⟨ab, am, rfl, h, p⟩ := rnd1 h
  unfold ref32_nothing_lp1 at h
  try dsimp only at h a c
  refine (show WC _ _ _ _ [(0, vB a0), (3, J), (4, vi Z)] _ from ?_)
  refine sq (sq (rg (wY (ym z) z (wY (Y.lss_i z z) z (nl (th ?_))))))
  rcases cnd h with ⟨j, h⟩ | ⟨j, h⟩
  ·refine WC.condT' z j (sk (th (sq (WC.block (rg (wY (ym z) z (wY (ym z) z (WL.buildSlice (O := aa) (R := Rep.B) (vals := [(0, vB a0)]) 11 [vB a0] (xs := [a0]) (by decide) ty89 ty4 (by decide) (by decide) (fe_ z) (by kernel_rfl) z ⟨[vB a0], [], z, z, z⟩ z ?_))))))))
   intro an ao ak m P
   obtain ⟨Q, D, h⟩ := bnd h
   have S := c.st m z z z
   refine WL.append (by decide) ty89 ty4 z (by decide) z z S P.src D z ?_
   intro ac ad al F T
   refine wY (ya z) z (nl (At.inBlock (th (rg (wY (ym z) z (wY (Y.add_i z z) z ?_))))))
   obtain ⟨ae, U, h⟩ := lt1 h
   refine WL.yE (ya z) (congrArg vi U.symm) z (nl ?_)
   exact At.round (Q, ae, ad, ac) ab (Nat.lt_succ_self _) ⟨next1 h p, (tr_ (su_ a z) (tr_ (su_ m z) (su_ F z))), T⟩ (.cons z (.cons z (.cons z .nil)))
  ·refine WC.condF' z j (WC.exit (At.thenX (At.loopX ?_)))
   obtain ⟨af, G, V⟩ := OwnSl.rlb 1002 rfl c
   exact At.hitB (σ := (List Bool × Own × Value)) (t, af, J) ⟨brk1 h p, (tr_ (su_ a z) (su_ G z)), V⟩ (.cons z .nil)
 ·rintro ⟨ai, ah, K⟩ W ⟨rfl, o, q⟩
  replace h := flowK_go M
  try dsimp only at h o q
  refine (show At _ _ _ [(3, K)] _ from ?_)
  refine At.inBlockHit (th (sq (rg (wY (ym z) z (wY (ya z) z (nl (th (rt ?_))))))))
  obtain rfl := some1 h
  have r : Stp [12, 1001] (Lg.O0 (fun _ => False)) w ah W := (su_ o z)
  exact At.res (.inl z) z (.tmp z .nil) ⟨K, z, (se_ r z z), (OwnSl.outF q r low0 z)⟩
theorem c_ref32_end {a0 : List UInt8} {a1 : Int} {w : World} {r0 : Int} (h : ref32_end a0 a1 = some r0) : Rets Tryd.prog 67 [vs a0, vi a1] w (fun v w' => v = vi r0 ∧ Ext w w') := by
 unfold ref32_end at h
 refine Rets.enter Tryd.func67 z z ?_
 refine (show WC _ _ _ _ [(0, vs a0), (1, vi a1)] _ from ?_)
 refine sq (rg (wY (ya z) z (nl (th (sq (WC.block ?_))))))
 obtain ⟨F, h, o⟩ := flow1 h
 obtain ⟨G, h⟩ := loop_some h
 refine WC.joinB 0 (σ := Unit) (fun x w' => F = .go () ∧ w = w') (fun x => []) ?_ ?_
 ·refine WC.loop (σ := Int) (fun x k w' => loopN k (ref32_end_lp1 a0) x = some F ∧ w = w') (fun x => [(0, vs a0), (1, vi x)]) a1 G (.cons z (.cons z .nil)) ⟨h, z⟩ ?_
  rintro p G _ ⟨h, rfl⟩
  obtain ⟨T, W, rfl, h, a⟩ := rnd1 h
  unfold ref32_end_lp1 at h
  try dsimp only at h
  refine (show WC _ _ _ _ [(0, vs a0), (1, vi p)] _ from ?_)
  refine sq (sq (rg (wY (ym z) z (wY (ym z) z (wY (Y.len_s ty9 z) z (wY (Y.lss_i z z) z (nl (th ?_))))))))
  rcases cnd h with ⟨c, h⟩ | ⟨c, h⟩
  ·refine WC.condT' z c (sk (th ?_))
   obtain ⟨U, h, q⟩ := flow1 h
   refine WC.join (σ := Int) (fun x w' => U = .go x ∧ w = w') (fun x => [(0, vs a0), (1, vi x)]) ?_ ?_
   ·refine WC.block (sq (sq (rg (wY (ym z) z (wY (ym z) z ?_)))))
    obtain ⟨X, H, h⟩ := bnd h
    refine wY (Y.index_s ty9 z z H) z (wY (Y.eql_b (b := 93) z z) z (nl (th ?_)))
    rcases cnd h with ⟨j, h⟩ | ⟨j, h⟩
    ·refine WC.condT' z j (sq (rg (wY (ym z) z (wY (ya z) z (nl (th (rt (At.thenR (At.inBlockR ?_)))))))))
     have h := outs1 h q
     refine At.joinR (At.loopR ?_)
     have h := outr1 h a o
     refine At.joinBR (At.inBlockR (At.thenR ?_))
     obtain rfl := some1 h
     have I : Stp [] (Lg.O0 (fun _ => False)) w (Lg.O0 (fun _ => False)) w := (sr_ _ _ _)
     exact At.res (.inl z) z (.tmp z .nil) ⟨z, (se_ I z z)⟩
    ·refine WC.condF' z j (sk (th (sq ?_)))
     obtain ⟨V, h, J⟩ := bnd h
     refine WC.join (σ := Int) (fun x w' => x = V ∧ w = w') (fun x => [(0, vs a0), (1, vi x)]) ?_ ?_
     ·refine sq (rg (wY (ym z) z (wY (ym z) z ?_)))
      obtain ⟨Z, K, h⟩ := bnd h
      refine wY (Y.index_s ty9 z z K) z (wY (Y.eql_b (b := 92) z z) z (nl (th ?_)))
      rcases cnd h with ⟨m, h⟩ | ⟨m, h⟩
      ·refine WC.condT' z m (rg (wY (ym z) z (wY (Y.add_i z z) z ?_)))
       obtain ⟨M, t, h⟩ := lt1 h
       refine WL.yE (ya z) (congrArg vi t.symm) z (nl ?_)
       exact At.join (σ := Int) M ⟨some1 h, z⟩ (.cons z (.cons z .nil))
      ·refine WC.condF' z m (sk ?_)
       exact At.join (σ := Int) p ⟨some1 h, z⟩ (.cons z (.cons z .nil))
     ·rintro P _ ⟨rfl, rfl⟩
      replace h := J
      try dsimp only at h
      refine (show At _ _ _ [(0, vs a0), (1, vi P)] _ from ?_)
      refine th (rg (wY (ym z) z (wY (Y.add_i z z) z ?_)))
      obtain ⟨Q, D, h⟩ := lt1 h
      refine WL.yE (ya z) (congrArg vi D.symm) z (nl (At.inBlock ?_))
      exact At.join (σ := Int) Q ⟨go2 h, z⟩ (.cons z (.cons z .nil))
   ·rintro r _ ⟨rfl, rfl⟩
    replace h := flowK_go q
    try dsimp only at h
    refine (show At _ _ _ [(0, vs a0), (1, vi r)] _ from ?_)
    exact At.round r T (Nat.lt_succ_self _) ⟨next1 h a, z⟩ (.cons z (.cons z .nil))
  ·refine WC.condF' z c (WC.exit (At.thenX (At.loopX ?_)))
   exact At.hitB (σ := Unit) () ⟨brk1 h a, z⟩ .nil
 ·rintro _ _ ⟨rfl, rfl⟩
  replace h := flowK_go o
  refine (show At _ _ _ [] _ from ?_)
  refine At.inBlockHit (th (sq (rg (wY (ya z) z (nl (th (rt ?_)))))))
  obtain rfl := some1 h
  have S : Stp [] (Lg.O0 (fun _ => False)) w (Lg.O0 (fun _ => False)) w := (sr_ _ _ _)
  exact At.res (.inl z) z (.tmp z .nil) ⟨z, (se_ S z z)⟩
theorem c_ref32_thing {a0 : List UInt8} {a1 : Int} {w : World} {r0 : ref32_Thing} (h : ref32_thing a0 a1 = some r0) : Rets Tryd.prog 68 [vs a0, vi a1] w (fun v w' => v = ag [vb r0.C, vi r0.Next] ∧ Ext w w') := by
 unfold ref32_thing at h
 refine Rets.enter Tryd.func68 z z ?_
 refine (show WC _ _ _ _ [(0, vs a0), (1, vi a1)] _ from ?_)
 refine sq (rg (WL.alloc (O := (Lg.O0 (fun _ => False))) 11 [vb 0, vi 0] ty117 z z ?_))
 intro Q r P m o
 refine nl (th (sq (sq (rg (wY (ym z) z (wY (ym z) z ?_))))))
 obtain ⟨S, t, h⟩ := bnd h
 refine wY (Y.index_s ty9 z z t) z (wY (Y.eql_b (b := 92) z z) z (nl (th ?_)))
 rcases cnd h with ⟨j, h⟩ | ⟨j, h⟩
 ·refine WC.condT' z j (sq (rg (wY (ym z) z (wY (ym z) z (wY (Y.add_i z z) z ?_)))))
  obtain ⟨a, D, h⟩ := bnd h
  refine wY (Y.index_s ty9 z z D) z (wY (ym z) z (wY (Y.add_i z z) z (wY (yb (vals := [(0, vb a), (1, vi (w64 (a1 + 2)))]) (cells := [vb a, vi (w64 (a1 + 2))]) (fe_ z) (by kernel_rfl)) z (WL.store (v := ag [vb a, vi (w64 (a1 + 2))]) (cells' := [vb a, vi (w64 (a1 + 2))]) ty117 z z o z (le_ z) z z ?_))))
  intro F p G
  refine nl (th (rt (At.thenR ?_)))
  obtain rfl := some1 h
  have H : Stp [11] (Lg.O0 (fun _ => False)) w r F := (tr_ (su_ m z) (su_ p z))
  exact At.res (.inl z) z (.cell z (G.runAg 0 [vb a, vi (w64 (a1 + 2))] ty117 z z z) .nil) ⟨z, (se_ H z z)⟩
 ·refine WC.condF' z j (sk (th (sq (rg (wY (ym z) z (wY (ym z) z ?_))))))
  obtain ⟨c, I, h⟩ := bnd h
  refine wY (Y.index_s ty9 z z I) z (wY (ym z) z (wY (Y.add_i z z) z (wY (yb (vals := [(0, vb c), (1, vi (w64 (a1 + 1)))]) (cells := [vb c, vi (w64 (a1 + 1))]) (fe_ z) (by kernel_rfl)) z (WL.store (v := ag [vb c, vi (w64 (a1 + 1))]) (cells' := [vb c, vi (w64 (a1 + 1))]) ty117 z z o z (le_ z) z z ?_))))
  intro J q K
  refine nl (th (rt ?_))
  obtain rfl := some1 h
  have M : Stp [11] (Lg.O0 (fun _ => False)) w r J := (tr_ (su_ m z) (su_ q z))
  exact At.res (.inl z) z (.cell z (K.runAg 0 [vb c, vi (w64 (a1 + 1))] ty117 z z z) .nil) ⟨z, (se_ M z z)⟩
theorem c_ref32_set {a0 : List UInt8} {a1 : Int} {w : World} {r0 : ref32_Got} (h : ref32_set a0 a1 = some r0) : Rets Tryd.prog 45 [vs a0, vi a1] w (fun v w' => ∃ (bq : Value), v = ag [bq, vi r0.At, vi r0.E] ∧ Ext w w' ∧ Sl rep_ref32_Piece w' (fun k => w.heap.size ≤ k) bq r0.L) := by
 unfold ref32_set at h
 refine Rets.enter Tryd.func45 z z ?_
 refine (show WC _ _ _ _ [(0, vs a0), (1, vi a1)] _ from ?_)
 refine sq (rg (WL.alloc (O := (Lg.O0 (fun _ => False))) 11 [sn, vi 0, vi 0] ty63 z z ?_))
 intro j fl br H aj
 refine nl (th (sq (rg (wY (ym z) z (wY (Y.add_i z z) z ?_)))))
 obtain ⟨aW, cb, h⟩ := lt1 h
 refine WL.yE (ya z) (congrArg vi cb.symm) z (nl (th (sq (rg (wY (ym z) z (wY (ym z) z (wY (Y.len_s ty9 z) z (wY (Y.lss_i z z) z (wY (ym z) z ?_)))))))))
 obtain ⟨fm, h, d9⟩ := bnd h
 refine WL.cut 5 (σ := Bool) (fun x w' => x = fm ∧ br = w') (fun x => [(0, vs a0), (1, vi a1), (4, pt j 0), (5, vi aW), (24, vB x)]) ?_ ?_
 ·rcases cnd h with ⟨aX, h⟩ | ⟨aX, h⟩
  ·refine WL.ren 19 z (congrArg vB aX) (ug z z (wY (ym z) z (ug z z (wY (ym z) z (ug z z ?_)))))
   obtain ⟨fn, ea, h⟩ := bnd h
   refine wY (Y.index_s ty9 z z ea) z (ug z z (wY (Y.eql_b (b := 33) z z) z (wY (Y.pick (b := true) z z) z ?_)))
   exact nl (At.join (σ := Bool) (decide (fn = 33)) ⟨some1 h, z⟩ (.cons z (.cons z (.cons z (.cons z (.cons z .nil))))))
  ·refine WL.ren 19 z (congrArg vB aX) (WL.gS z z z z (WL.gS z z z z (WL.gS z z z z (WL.gS z z z z (wY (Y.pick (b := false) z z) z ?_)))))
   exact nl (At.join (σ := Bool) false ⟨some1 h, z⟩ (.cons z (.cons z (.cons z (.cons z (.cons z .nil))))))
 ·rintro o _ ⟨rfl, rfl⟩
  replace h := d9
  try dsimp only at h
  refine (show WL _ _ _ _ _ [(0, vs a0), (1, vi a1), (4, pt j 0), (5, vi aW), (24, vB o)] _ from ?_)
  refine wY (ya z) z (nl (th (sq ?_)))
  obtain ⟨fo, h, eb⟩ := bnd h
  refine WC.join (σ := Int) (fun x w' => x = fo ∧ br = w') (fun x => [(0, vs a0), (1, vi a1), (4, pt j 0), (5, vi x), (6, vB o)]) ?_ ?_
  ·refine sq (rg (wY (ym z) z (nl (th ?_))))
   rcases cnd h with ⟨aY, h⟩ | ⟨aY, h⟩
   ·refine WC.condT' z aY (rg (wY (ym z) z (wY (Y.add_i z z) z ?_)))
    obtain ⟨ec, cc, h⟩ := lt1 h
    refine WL.yE (ya z) (congrArg vi cc.symm) z (nl ?_)
    exact At.join (σ := Int) ec ⟨some1 h, z⟩ (.cons z (.cons z (.cons z (.cons z (.cons z .nil)))))
   ·refine WC.condF' z aY (sk ?_)
    exact At.join (σ := Int) aW ⟨some1 h, z⟩ (.cons z (.cons z (.cons z (.cons z (.cons z .nil)))))
  ·rintro aZ _ ⟨rfl, rfl⟩
   replace h := eb
   try dsimp only at h
   refine (show At _ _ _ [(0, vs a0), (1, vi a1), (4, pt j 0), (5, vi aZ), (6, vB o)] _ from ?_)
   refine th (sq (rg (wY (ym z) z (wY (ym z) z ?_))))
   obtain ⟨c, ed, h⟩ := bnd h
   refine WL.call (vals := [vs a0, vi aZ]) kok67 z z (c_ref32_end ed) ?_
   rintro f8 f9 ⟨rfl, ee⟩
   obtain ⟨bs, fp, fq, p⟩ := adoptE fl (fun k => 1) ee
   refine wY (ya z) z (nl (th (sq (sq (rg (wY (ym z) z (wY (Y.lss_i z z) z (nl (th ?_)))))))))
   rcases cnd h with ⟨a2, h⟩ | ⟨a2, h⟩
   ·refine WC.condT' z a2 (sq (rg (wY (ym z) z (wY (yb (vals := [(1, vi a1), (2, vi 2)]) (cells := [sn, vi a1, vi 2]) (fe_ z) (by kernel_rfl)) z ?_))))
    have ef := aj.st p z
    refine WL.store (v := ag [sn, vi a1, vi 2]) (cells' := [sn, vi a1, vi 2]) ty63 z z ef z (le_ z) z z ?_
    intro eg cd eh
    refine nl (th (rt (At.thenR ?_)))
    obtain rfl := some1 h
    have ei : Stp [11] (Lg.O0 (fun _ => False)) w bs eg := (tr_ (su_ H z) (tr_ (su_ p z) (su_ cd z)))
    exact At.res (.inl z) z (.cell z (eh.runAg 0 [sn, vi a1, vi 2] ty63 z z z) .nil) ⟨sn, z, (se_ ei z z), (Or.inl ⟨z, z⟩)⟩
   ·refine WC.condF' z a2 (sk (th (sq (sq (rg (wY (ym z) z (wY (ym z) z (wY (Y.eql_i z z) z (nl ?_)))))))))
    refine th ?_
    rcases cnd h with ⟨a3, h⟩ | ⟨a3, h⟩
    ·refine WC.condT' z a3 (sq (rg (wY (ym z) z (wY (yb (vals := [(1, vi a1), (2, vi 3)]) (cells := [sn, vi a1, vi 3]) (fe_ z) (by kernel_rfl)) z ?_))))
     have ej := aj.st p z
     refine WL.store (v := ag [sn, vi a1, vi 3]) (cells' := [sn, vi a1, vi 3]) ty63 z z ej z (le_ z) z z ?_
     intro ek ce em
     refine nl (th (rt (At.thenR ?_)))
     obtain rfl := some1 h
     have en : Stp [11] (Lg.O0 (fun _ => False)) w bs ek := (tr_ (su_ H z) (tr_ (su_ p z) (su_ ce z)))
     exact At.res (.inl z) z (.cell z (em.runAg 0 [sn, vi a1, vi 3] ty63 z z z) .nil) ⟨sn, z, (se_ en z z), (Or.inl ⟨z, z⟩)⟩
    ·refine WC.condF' z a3 (sk (th (sq (rg ?_))))
     obtain ⟨d6, eo, h⟩ := bnd h
     refine WL.call (vals := [vB false]) kok47 z z (c_ref32_nothing eo) ?_
     rintro a ao ⟨_, rfl, ep, fs⟩
     obtain ⟨ba, ft, bt, t⟩ := adoptE bs (fun k => if ob a = some k then 12 else 1) ep
     have er : OwnSl 12 Rep.B 4 ba ao a d6 := RowF.adopt 12 Flat.B fs bt (fun k hk => if_pos hk)
     refine wY (ya z) z (nl (th (sq ?_)))
     obtain ⟨fu, h, a4⟩ := flow1 h
     refine WC.join (σ := (List Bool × Own)) (fun x w' => fu = .go x.1 ∧ Stp [12, 13, 14, 1001, 1002, 1003, 1004, 1005, 1006] ba ao x.2 w' ∧ OwnSl 1008 Rep.B 4 x.2 w' a x.1) (fun x => [(4, pt j 0), (6, vB o), (7, vi c), (8, a)]) ?_ ?_
     ·refine WC.block ?_
      obtain ⟨d7, h, a5⟩ := flow1 h
      obtain ⟨d8, h⟩ := loop_some h
      refine WC.joinB 0 (σ := (List Bool × Own)) (fun x w' => d7 = .go x.1 ∧ Stp [12, 13, 14, 1001, 1002, 1003, 1004, 1005] ba ao x.2 w' ∧ OwnSl 1006 Rep.B 4 x.2 w' a x.1) (fun x => [(4, pt j 0), (6, vB o), (7, vi c), (8, a)]) ?_ ?_
      ·obtain ⟨fw, cf, es⟩ := OwnSl.rlb 1005 rfl er
       refine WC.loop (σ := (Int × List Bool × Own)) (fun x k w' => loopN k (ref32_set_lp1 a0 c) (x.1, x.2.1) = some d7 ∧ Stp [12, 13, 14, 1001, 1002, 1003, 1004, 1005] ba ao x.2.2 w' ∧ OwnSl 1005 Rep.B 4 x.2.2 w' a x.2.1) (fun x => [(0, vs a0), (4, pt j 0), (5, vi x.1), (6, vB o), (7, vi c), (8, a)]) (aZ, d6, fw) d8 (.cons z (.cons z (.cons z (.cons z (.cons z (.cons z .nil)))))) ⟨h, (su_ cf z), es⟩ ?_
       rintro ⟨m, bu, bw⟩ d8 et ⟨h, I, aa⟩
       obtain ⟨fx, gr, rfl, h, ap⟩ := rnd1 h
       unfold ref32_set_lp1 at h
       try dsimp only at h I aa
       refine (show WC _ _ _ _ [(0, vs a0), (4, pt j 0), (5, vi m), (6, vB o), (7, vi c), (8, a)] _ from ?_)
       refine sq (sq (rg (wY (ym z) z (wY (ym z) z (wY (Y.lss_i z z) z (nl (th ?_)))))))
       rcases cnd h with ⟨a6, h⟩ | ⟨a6, h⟩
       ·refine WC.condT' z a6 (sk (th ?_))
        obtain ⟨fy, h, a7⟩ := flow1 h
        refine WC.join (σ := (Int × List Bool × Own)) (fun x w' => fy = .go (x.1, x.2.1) ∧ Stp [13, 14, 1001, 1002, 1003, 1005] bw et x.2.2 w' ∧ OwnSl 1004 Rep.B 4 x.2.2 w' a x.2.1) (fun x => [(0, vs a0), (4, pt j 0), (5, vi x.1), (6, vB o), (7, vi c), (8, a)]) ?_ ?_
        ·refine WC.block (sq (sq (rg (wY (ym z) z (wY (ym z) z ?_)))))
         obtain ⟨ga, cg, h⟩ := bnd h
         refine wY (Y.index_s ty9 z z cg) z (wY (Y.eql_b (b := 45) z z) z (nl (th ?_)))
         rcases cnd h with ⟨aq, h⟩ | ⟨aq, h⟩
         ·refine WC.condT' z aq (sq (sq (rg (wY (ym z) z (wY (Y.add_i z z) z (wY (ym z) z (wY (Y.neq_i z z) z (nl (th ?_)))))))))
          rcases cnd h with ⟨ar, h⟩ | ⟨ar, h⟩
          ·refine WC.condT' z ar (sq (rg (wY (ym z) z (wY (yb (vals := [(1, vi m), (2, vi 3)]) (cells := [sn, vi m, vi 3]) (fe_ z) (by kernel_rfl)) z ?_))))
           have cj := ((aj.st p z).st t z).st I z
           refine WL.store (v := ag [sn, vi m, vi 3]) (cells' := [sn, vi m, vi 3]) ty63 z z cj z (le_ z) z z ?_
           intro ck bx cl
           refine nl (th (rt (At.thenR (At.thenR (At.inBlockR ?_)))))
           have h := outs1 h a7
           refine At.joinR (At.loopR ?_)
           have h := outr1 h ap a5
           refine At.joinBR (At.inBlockR ?_)
           have h := outs1 h a4
           refine At.joinR (At.thenR ?_)
           obtain rfl := some1 h
           have cm : Stp [11, 12, 13, 14, 1001, 1002, 1003, 1004, 1005] (Lg.O0 (fun _ => False)) w bw ck := (tr_ (su_ H z) (tr_ (su_ p z) (tr_ (su_ t z) (tr_ (su_ I z) (su_ bx z)))))
           exact At.res (.inl z) z (.cell z (cl.runAg 0 [sn, vi m, vi 3] ty63 z z z) .nil) ⟨sn, z, (se_ cm z z), (Or.inl ⟨z, z⟩)⟩
          ·refine WC.condF' z ar (sk (th (sq (rg (wY (ym z) z ?_)))))
           obtain ⟨eu, cn, h⟩ := bnd h
           obtain ⟨gb, fz, fH, au, co, cq, av, bz⟩ := OwnSl.at aa cn
           obtain rfl := bz
           replace av : CellsAt _ _ _ [vB eu] := av
           have fA := CAt.own aa au av
           refine wY (Y.indexAddr ty89 ty4 z au z co cq) z ?_
           obtain ⟨cr, bA, h⟩ := bnd h
           refine WL.storeOwn (by decide) ty4 z z z aa au bA ?_
           intro fI bB cs
           refine nl (th (sq (rg (wY (ym z) z (wY (Y.add_i z z) z ?_)))))
           obtain ⟨ct, bC, h⟩ := lt1 h
           refine WL.yE (ya z) (congrArg vi bC.symm) z (nl (th (WC.exit (At.thenX (At.inBlockHit ?_)))))
           obtain ⟨ew, bD, cu⟩ := OwnSl.rlb 1004 rfl cs
           exact At.join (σ := (Int × List Bool × Own)) (ct, cr, ew) ⟨go2 h, (tr_ (su_ bB z) (su_ bD z)), cu⟩ (.cons z (.cons z (.cons z (.cons z (.cons z (.cons z .nil))))))
         ·refine WC.condF' z aq (sk (th (sq (rg (wY (ym z) z (wY (ym z) z ?_))))))
          obtain ⟨q, cw, h⟩ := bnd h
          refine WL.call (vals := [vs a0, vi m]) kok68 z z (c_ref32_thing cw) ?_
          rintro fJ fK ⟨rfl, cx⟩
          obtain ⟨ex, fh, fi, S⟩ := adoptE bw (fun k => 1) cx
          refine WL.alloc (O := ex) 13 [vb 0, vi 0] ty117 z z ?_
          intro ab ey fL T cy
          refine WL.store (v := ag [vb q.C, vi q.Next]) (cells' := [vb q.C, vi q.Next]) ty117 z z cy z (le_ z) z z ?_
          intro fN U ax
          refine nl (th (sq (rg (wY (yL ty117 z z (ax.cells 0 [vb q.C, vi q.Next] z) z) z (WL.alloc (O := ey) 14 [vb 0, vi 0] ty117 z z ?_)))))
          intro r a8 fO D cz
          refine WL.store (v := ag [vb q.C, vi q.Next]) (cells' := [vb q.C, vi q.Next]) ty117 z z cz z (le_ z) z z ?_
          intro ay F bb
          refine nl (th (sq ?_))
          obtain ⟨ez, h, cA⟩ := bnd h
          refine WC.join (σ := (UInt8 × Int × Own)) (fun x w' => (x.1, x.2.1) = ez ∧ Stp [14] a8 ay x.2.2 w' ∧ Blk 14 x.2.2 w' r 117 [vb x.1, vi x.2.1]) (fun x => [(0, vs a0), (4, pt j 0), (5, vi m), (6, vB o), (7, vi c), (8, a), (9, pt ab 0), (10, pt r 0)]) ?_ ?_
          ·refine sq (rg (wY (yf fo117_1 z) z ?_))
           have ah := (ax.st D z).st F z
           refine wY (yl ty3 z z (ah.cell 1 _ z)) z (wY (Y.add_i z z) z (wY (ym z) z (wY (Y.lss_i z z) z (wY (ym z) z ?_))))
           obtain ⟨eA, h, cD⟩ := bnd h
           refine WL.cut 6 (σ := Bool) (fun x w' => x = eA ∧ ay = w') (fun x => [(0, vs a0), (4, pt j 0), (5, vi m), (6, vB o), (7, vi c), (8, a), (9, pt ab 0), (10, pt r 0), (73, vB x)]) ?_ ?_
           ·rcases cnd h with ⟨az, h⟩ | ⟨az, h⟩
            ·refine WL.ren 67 z (congrArg vB az) (ug z z (wY (ym z) z (ug z z (wY (yf fo117_1 z) z (ug z z (wY (yl ty3 z z (ah.cell 1 _ z)) z (ug z z ?_)))))))
             obtain ⟨eB, cE, h⟩ := bnd h
             refine wY (Y.index_s ty9 z z cE) z (ug z z (wY (Y.eql_b (b := 45) z z) z (wY (Y.pick (b := true) z z) z ?_)))
             exact nl (At.join (σ := Bool) (decide (eB = 45)) ⟨some1 h, z⟩ (.cons z (.cons z (.cons z (.cons z (.cons z (.cons z (.cons z (.cons z (.cons z .nil))))))))))
            ·refine WL.ren 67 z (congrArg vB az) (WL.gS z z z z (WL.gS z z z z (WL.gS z z z z (WL.gS z z z z (WL.gS z z z z (wY (Y.pick (b := false) z z) z ?_))))))
             exact nl (At.join (σ := Bool) false ⟨some1 h, z⟩ (.cons z (.cons z (.cons z (.cons z (.cons z (.cons z (.cons z (.cons z (.cons z .nil))))))))))
           ·rintro eC _ ⟨rfl, rfl⟩
            replace h := cD
            try dsimp only at h
            refine (show WL _ _ _ _ _ [(0, vs a0), (4, pt j 0), (5, vi m), (6, vB o), (7, vi c), (8, a), (9, pt ab 0), (10, pt r 0), (73, vB eC)] _ from ?_)
            refine wY (ym z) z ?_
            obtain ⟨eD, h, cF⟩ := bnd h
            refine WL.cut 7 (σ := Bool) (fun x w' => x = eD ∧ ay = w') (fun x => [(0, vs a0), (4, pt j 0), (5, vi m), (6, vB o), (7, vi c), (8, a), (9, pt ab 0), (10, pt r 0), (81, vB x)]) ?_ ?_
            ·rcases cnd h with ⟨aA, h⟩ | ⟨aA, h⟩
             ·refine WL.ren 74 z (congrArg vB aA) (ug z z (wY (ym z) z (ug z z (wY (yf fo117_1 z) z (ug z z (wY (yl ty3 z z (ah.cell 1 _ z)) z (ug z z (wY (Y.add_i z z) z (ug z z ?_)))))))))
              obtain ⟨eE, cG, h⟩ := bnd h
              refine wY (Y.index_s ty9 z z cG) z (ug z z (wY (Y.neq_b (b := 45) z z) z (wY (Y.pick (b := true) z z) z ?_)))
              exact nl (At.join (σ := Bool) (!decide (eE = 45)) ⟨some1 h, z⟩ (.cons z (.cons z (.cons z (.cons z (.cons z (.cons z (.cons z (.cons z (.cons z .nil))))))))))
             ·refine WL.ren 74 z (congrArg vB aA) (WL.gS z z z z (WL.gS z z z z (WL.gS z z z z (WL.gS z z z z (WL.gS z z z z (WL.gS z z z z (wY (Y.pick (b := false) z z) z ?_)))))))
              exact nl (At.join (σ := Bool) false ⟨some1 h, z⟩ (.cons z (.cons z (.cons z (.cons z (.cons z (.cons z (.cons z (.cons z (.cons z .nil))))))))))
            ·rintro eF _ ⟨rfl, rfl⟩
             replace h := cF
             try dsimp only at h
             refine (show WL _ _ _ _ _ [(0, vs a0), (4, pt j 0), (5, vi m), (6, vB o), (7, vi c), (8, a), (9, pt ab 0), (10, pt r 0), (81, vB eF)] _ from ?_)
             refine nl (th ?_)
             rcases cnd h with ⟨aC, h⟩ | ⟨aC, h⟩
             ·refine WC.condT' z aC (rg (wY (ym z) z (wY (yf fo117_1 z) z (wY (yl ty3 z z (ah.cell 1 _ z)) z (wY (Y.add_i z z) z ?_)))))
              obtain ⟨ac, cH, h⟩ := bnd h
              refine WL.call (vals := [vs a0, vi (w64 (q.Next + 1))]) kok68 z z (c_ref32_thing cH) ?_
              rintro fP fQ ⟨rfl, cI⟩
              obtain ⟨eG, fj, fk, aQ⟩ := adoptE a8 (fun k => 1) cI
              have cJ := bb.st aQ z
              refine WL.store (v := ag [vb ac.C, vi ac.Next]) (cells' := [vb ac.C, vi ac.Next]) ty117 z z cJ z (le_ z) z z ?_
              intro fR bE cK
              refine nl ?_
              exact At.join (σ := (UInt8 × Int × Own)) (ac.C, ac.Next, eG) ⟨some1 h, (tr_ (su_ aQ z) (su_ bE z)), cK⟩ (.cons z (.cons z (.cons z (.cons z (.cons z (.cons z (.cons z (.cons z .nil))))))))
             ·refine WC.condF' z aC (sk ?_)
              exact At.join (σ := (UInt8 × Int × Own)) (q.C, q.Next, a8) ⟨some1 h, (sr_ _ _ _), bb⟩ (.cons z (.cons z (.cons z (.cons z (.cons z (.cons z (.cons z (.cons z .nil))))))))
          ·rintro ⟨eH, eI, aD⟩ aE ⟨rfl, G, ai⟩
           replace h := cA
           try dsimp only at h G ai
           refine (show At _ _ _ [(0, vs a0), (4, pt j 0), (5, vi m), (6, vB o), (7, vi c), (8, a), (9, pt ab 0), (10, pt r 0)] _ from ?_)
           refine th (sq (sq (rg (wY (yf fo117_0 z) z (wY (yl ty5 z z (ai.cell 0 _ z)) z (wY (yf fo117_0 z) z ?_))))))
           have bc := ((ax.st D z).st F z).st G z
           refine wY (yl ty5 z z (bc.cell 0 _ z)) z (wY (Y.lss_b z z) z (nl (th ?_)))
           rcases cnd h with ⟨aF, h⟩ | ⟨aF, h⟩
           ·refine WC.condT' z aF (sq (rg (wY (ym z) z (wY (yb (vals := [(1, vi m), (2, vi 3)]) (cells := [sn, vi m, vi 3]) (fe_ z) (by kernel_rfl)) z ?_))))
            have cV := ((((((((aj.st p z).st t z).st I z).st S z).st T z).st U z).st D z).st F z).st G z
            refine WL.store (v := ag [sn, vi m, vi 3]) (cells' := [sn, vi m, vi 3]) ty63 z z cV z (le_ z) z z ?_
            intro cW bF cX
            refine nl (th (rt (At.thenR (At.inBlockR ?_))))
            have h := outs1 h a7
            refine At.joinR (At.loopR ?_)
            have h := outr1 h ap a5
            refine At.joinBR (At.inBlockR ?_)
            have h := outs1 h a4
            refine At.joinR (At.thenR ?_)
            obtain rfl := some1 h
            have cY : Stp [11, 12, 13, 14, 1001, 1002, 1003, 1004, 1005] (Lg.O0 (fun _ => False)) w aD cW := (tr_ (su_ H z) (tr_ (su_ p z) (tr_ (su_ t z) (tr_ (su_ I z) (tr_ (su_ S z) (tr_ (su_ T z) (tr_ (su_ U z) (tr_ (su_ D z) (tr_ (su_ F z) (tr_ (su_ G z) (su_ bF z)))))))))))
            exact At.res (.inl z) z (.cell z (cX.runAg 0 [sn, vi m, vi 3] ty63 z z z) .nil) ⟨sn, z, (se_ cY z z), (Or.inl ⟨z, z⟩)⟩
           ·refine WC.condF' z aF (sk (th (sq (sq (rg (wY (yf fo117_0 z) z (wY (yl ty5 z z (bc.cell 0 _ z)) z (wY (Y.conv_bi ty5.u ty3.u z) z ?_))))))))
            obtain ⟨eJ, cZ, h⟩ := lt1 h
            refine WL.yE (ya z) (congrArg vi cZ.symm) z (nl (th ?_))
            obtain ⟨eK, h, c0⟩ := bnd h
            refine WC.join (σ := (List Bool × Own)) (fun x w' => x.1 = eK ∧ Stp [1001, 1002, 1005] aD aE x.2 w' ∧ OwnSl 1003 Rep.B 4 x.2 w' a x.1) (fun x => [(0, vs a0), (4, pt j 0), (6, vB o), (7, vi c), (8, a), (10, pt r 0)]) ?_ ?_
            ·refine WC.block ?_
             obtain ⟨bG, h, c1⟩ := flow1 h
             obtain ⟨bH, h⟩ := loop_some h
             refine WC.joinB 2 (σ := (List Bool × Own)) (fun x w' => bG = .go x.1 ∧ Stp [1001, 1005] aD aE x.2 w' ∧ OwnSl 1002 Rep.B 4 x.2 w' a x.1) (fun x => [(0, vs a0), (4, pt j 0), (6, vB o), (7, vi c), (8, a), (10, pt r 0)]) ?_ ?_
             ·have c7 := (((((aa.st S z z z).st T z z z).st U z z z).st D z z z).st F z z z).st G z z z
              obtain ⟨eL, bI, c8⟩ := OwnSl.rlb 1001 rfl c7
              refine WC.loop (σ := (List Bool × Int × Own)) (fun x k w' => loopN k (ref32_set_lp2 eH) (x.1, x.2.1) = some bG ∧ Stp [1001, 1005] aD aE x.2.2 w' ∧ OwnSl 1001 Rep.B 4 x.2.2 w' a x.1) (fun x => [(0, vs a0), (4, pt j 0), (6, vB o), (7, vi c), (8, a), (10, pt r 0), (11, vi x.2.1)]) (bu, eJ, eL) bH (.cons z (.cons z (.cons z (.cons z (.cons z (.cons z (.cons z .nil))))))) ⟨h, (su_ bI z), c8⟩ ?_
              rintro ⟨c9, eM, eN⟩ bH fT ⟨h, V, W⟩
              obtain ⟨eO, gc, rfl, h, bd⟩ := rnd1 h
              unfold ref32_set_lp2 at h
              try dsimp only at h V W
              refine (show WC _ _ _ _ [(0, vs a0), (4, pt j 0), (6, vB o), (7, vi c), (8, a), (10, pt r 0), (11, vi eM)] _ from ?_)
              refine sq (sq (rg (wY (ym z) z (wY (yf fo117_0 z) z ?_))))
              have da := ai.st V z
              refine wY (yl ty5 z z (da.cell 0 _ z)) z (wY (Y.conv_bi ty5.u ty3.u z) z (wY (Y.leq_i z z) z (nl (th ?_))))
              rcases cnd h with ⟨aG, h⟩ | ⟨aG, h⟩
              ·refine WC.condT' z aG (sk (th (sq (WC.block (rg (wY (ym z) z (wY (ym z) z ?_)))))))
               obtain ⟨eP, db, h⟩ := bnd h
               obtain ⟨gd, fB, fU, aH, dc, dd, aI, bJ⟩ := OwnSl.at W db
               obtain rfl := bJ
               replace aI : CellsAt _ _ _ [vB eP] := aI
               have fC := CAt.own W aH aI
               refine wY (Y.indexAddr ty89 ty4 z aH z dc dd) z ?_
               obtain ⟨de, bK, h⟩ := bnd h
               refine WL.storeOwn (by decide) ty4 z z z W aH bK ?_
               intro fV bL df
               refine nl (At.inBlock (th (rg (wY (ym z) z (wY (Y.add_i z z) z ?_)))))
               obtain ⟨eQ, dg, h⟩ := lt1 h
               refine WL.yE (ya z) (congrArg vi dg.symm) z (nl ?_)
               exact At.round (de, eQ, eN) eO (Nat.lt_succ_self _) ⟨next1 h bd, (tr_ (su_ V z) (su_ bL z)), df⟩ (.cons z (.cons z (.cons z (.cons z (.cons z (.cons z (.cons z .nil)))))))
              ·refine WC.condF' z aG (WC.exit (At.thenX (At.loopX ?_)))
               obtain ⟨eR, bM, dh⟩ := OwnSl.rlb 1002 rfl W
               exact At.hitB (σ := (List Bool × Own)) (c9, eR) ⟨brk1 h bd, (tr_ (su_ V z) (su_ bM z)), dh⟩ (.cons z (.cons z (.cons z (.cons z (.cons z (.cons z .nil))))))
             ·rintro ⟨di, ge⟩ fY ⟨rfl, aR, bf⟩
              replace h := flowK_go c1
              try dsimp only at h aR bf
              refine (show At _ _ _ [(0, vs a0), (4, pt j 0), (6, vB o), (7, vi c), (8, a), (10, pt r 0)] _ from ?_)
              refine At.inBlockHit ?_
              obtain ⟨eS, bO, dj⟩ := OwnSl.rlb 1003 rfl bf
              exact At.join (σ := (List Bool × Own)) (di, eS) ⟨some1 h, (tr_ (su_ aR z) (su_ bO z)), dj⟩ (.cons z (.cons z (.cons z (.cons z (.cons z (.cons z .nil))))))
            ·rintro ⟨dk, gf⟩ f0 ⟨rfl, ak, bg⟩
             replace h := c0
             try dsimp only at h ak bg
             refine (show At _ _ _ [(0, vs a0), (4, pt j 0), (6, vB o), (7, vi c), (8, a), (10, pt r 0)] _ from ?_)
             refine th (rg (wY (yf fo117_1 z) z ?_))
             have dl := ai.st ak z
             refine wY (yl ty3 z z (dl.cell 1 _ z)) z (wY (ya z) z (nl (At.inBlock ?_)))
             obtain ⟨eT, bP, dm⟩ := OwnSl.rlb 1004 rfl bg
             exact At.join (σ := (Int × List Bool × Own)) (eI, dk, eT) ⟨go2 h, (tr_ (su_ S z) (tr_ (su_ T z) (tr_ (su_ U z) (tr_ (su_ D z) (tr_ (su_ F z) (tr_ (su_ G z) (tr_ (su_ ak z) (su_ bP z)))))))), dm⟩ (.cons z (.cons z (.cons z (.cons z (.cons z (.cons z .nil))))))
        ·rintro ⟨bQ, eU, gs⟩ gg ⟨rfl, bh, bR⟩
         replace h := flowK_go a7
         try dsimp only at h bh bR
         refine (show At _ _ _ [(0, vs a0), (4, pt j 0), (5, vi bQ), (6, vB o), (7, vi c), (8, a)] _ from ?_)
         obtain ⟨eV, bS, dn⟩ := OwnSl.rlb 1005 rfl bR
         exact At.round (bQ, eU, eV) fx (Nat.lt_succ_self _) ⟨next1 h ap, (tr_ (su_ I z) (tr_ (su_ bh z) (su_ bS z))), dn⟩ (.cons z (.cons z (.cons z (.cons z (.cons z (.cons z .nil))))))
       ·refine WC.condF' z a6 (WC.exit (At.thenX (At.loopX ?_)))
        obtain ⟨eW, bT, dp⟩ := OwnSl.rlb 1006 rfl aa
        exact At.hitB (σ := (List Bool × Own)) (bu, eW) ⟨brk1 h ap, (tr_ (su_ I z) (su_ bT z)), dp⟩ (.cons z (.cons z (.cons z (.cons z .nil))))
      ·rintro ⟨eX, gt⟩ gh ⟨rfl, bi, bU⟩
       replace h := flowK_go a5
       try dsimp only at h bi bU
       refine (show At _ _ _ [(4, pt j 0), (6, vB o), (7, vi c), (8, a)] _ from ?_)
       refine At.inBlockHit ?_
       obtain ⟨eY, bW, dr⟩ := OwnSl.rlb 1008 rfl bU
       exact At.join (σ := (List Bool × Own)) (eX, eY) ⟨go2 h, (tr_ (su_ bi z) (su_ bW z)), dr⟩ (.cons z (.cons z (.cons z (.cons z .nil))))
     ·rintro ⟨bX, bj⟩ aJ ⟨rfl, X, a9⟩
      replace h := flowK_go a4
      try dsimp only at h X a9
      refine (show At _ _ _ [(4, pt j 0), (6, vB o), (7, vi c), (8, a)] _ from ?_)
      refine th (sq ?_)
      obtain ⟨eZ, h, ds⟩ := bnd h
      refine WC.join (σ := (List Bool × Own)) (fun x w' => x.1 = eZ ∧ Stp [1008, 1011, 1012, 1013] bj aJ x.2 w' ∧ OwnSl 1015 Rep.B 4 x.2 w' a x.1) (fun x => [(4, pt j 0), (7, vi c), (8, a)]) ?_ ?_
      ·refine sq (rg (wY (ym z) z (nl (th ?_))))
       rcases cnd h with ⟨aK, h⟩ | ⟨aK, h⟩
       ·refine WC.condT' z aK (sq (rg (wY (ya z) z (nl (th ?_)))))
        obtain ⟨e0, h, dt⟩ := bnd h
        refine WC.join (σ := (List Bool × Own)) (fun x w' => x.1 = e0 ∧ Stp [1008, 1011, 1012] bj aJ x.2 w' ∧ OwnSl 1013 Rep.B 4 x.2 w' a x.1) (fun x => [(4, pt j 0), (7, vi c), (8, a)]) ?_ ?_
        ·refine WC.block ?_
         obtain ⟨bY, h, du⟩ := flow1 h
         obtain ⟨bZ, h⟩ := loop_some h
         refine WC.joinB 4 (σ := (List Bool × Own)) (fun x w' => bY = .go x.1 ∧ Stp [1008, 1011] bj aJ x.2 w' ∧ OwnSl 1012 Rep.B 4 x.2 w' a x.1) (fun x => [(4, pt j 0), (7, vi c), (8, a)]) ?_ ?_
         ·obtain ⟨e1, b0, dw⟩ := OwnSl.rlb 1011 rfl a9
          refine WC.loop (σ := (List Bool × Int × Own)) (fun x k w' => loopN k (ref32_set_lp3) (x.1, x.2.1) = some bY ∧ Stp [1008, 1011] bj aJ x.2.2 w' ∧ OwnSl 1011 Rep.B 4 x.2.2 w' a x.1) (fun x => [(4, pt j 0), (7, vi c), (8, a), (12, vi x.2.1)]) (bX, 0, e1) bZ (.cons z (.cons z (.cons z (.cons z .nil)))) ⟨h, (su_ b0 z), dw⟩ ?_
          rintro ⟨dx, e2, e5⟩ bZ f1 ⟨h, al, J⟩
          obtain ⟨e6, gi, rfl, h, bk⟩ := rnd1 h
          unfold ref32_set_lp3 at h
          try dsimp only at h al J
          refine (show WC _ _ _ _ [(4, pt j 0), (7, vi c), (8, a), (12, vi e2)] _ from ?_)
          refine sq (sq (rg (wY (ym z) z (wY (Y.lss_i z z) z (nl (th ?_))))))
          rcases cnd h with ⟨aL, h⟩ | ⟨aL, h⟩
          ·refine WC.condT' z aL (sk (th (sq (WC.block (rg (wY (ym z) z (wY (ym z) z (wY (ym z) z (wY (ym z) z ?_)))))))))
           obtain ⟨e7, dy, h⟩ := bnd h
           obtain ⟨gj, fD, f2, bl, dz, dA, aM, b1⟩ := OwnSl.at J dy
           obtain rfl := b1
           replace aM : CellsAt _ _ _ [vB e7] := aM
           have b2 := CAt.own J bl aM
           refine wY (Y.indexAddr ty89 ty4 z bl z dz dA) z (wY (yl ty4 z z b2.at_) z (wY (Y.not z) z ?_))
           obtain ⟨e8, dB, h⟩ := bnd h
           obtain ⟨gk, fF, f3, aN, dC, dD, aO, b3⟩ := OwnSl.at J dB
           obtain rfl := b3
           replace aO : CellsAt _ _ _ [vB e8] := aO
           have fG := CAt.own J aN aO
           refine wY (Y.indexAddr ty89 ty4 z aN z dC dD) z ?_
           obtain ⟨gl, dE, h⟩ := lt1 h
           refine WL.ren 120 z (congrArg vB dE.symm) ?_
           obtain ⟨dF, b4, h⟩ := bnd h
           refine WL.storeOwn (by decide) ty4 z z z J aN b4 ?_
           intro f4 b5 dG
           refine nl (At.inBlock (th (rg (wY (ym z) z (wY (Y.add_i z z) z ?_)))))
           obtain ⟨e9, dH, h⟩ := lt1 h
           refine WL.yE (ya z) (congrArg vi dH.symm) z (nl ?_)
           exact At.round (dF, e9, e5) e6 (Nat.lt_succ_self _) ⟨next1 h bk, (tr_ (su_ al z) (su_ b5 z)), dG⟩ (.cons z (.cons z (.cons z (.cons z .nil))))
          ·refine WC.condF' z aL (WC.exit (At.thenX (At.loopX ?_)))
           obtain ⟨fa, b6, dI⟩ := OwnSl.rlb 1012 rfl J
           exact At.hitB (σ := (List Bool × Own)) (dx, fa) ⟨brk1 h bk, (tr_ (su_ al z) (su_ b6 z)), dI⟩ (.cons z (.cons z (.cons z .nil)))
         ·rintro ⟨dJ, gm⟩ f5 ⟨rfl, aS, bm⟩
          replace h := flowK_go du
          try dsimp only at h aS bm
          refine (show At _ _ _ [(4, pt j 0), (7, vi c), (8, a)] _ from ?_)
          refine At.inBlockHit ?_
          obtain ⟨fc, b7, dK⟩ := OwnSl.rlb 1013 rfl bm
          exact At.join (σ := (List Bool × Own)) (dJ, fc) ⟨some1 h, (tr_ (su_ aS z) (su_ b7 z)), dK⟩ (.cons z (.cons z (.cons z .nil)))
        ·rintro ⟨dL, gn⟩ f6 ⟨rfl, aT, bn⟩
         replace h := dt
         try dsimp only at h aT bn
         refine (show At _ _ _ [(4, pt j 0), (7, vi c), (8, a)] _ from ?_)
         obtain ⟨fd, b8, dM⟩ := OwnSl.rlb 1015 rfl bn
         exact At.join (σ := (List Bool × Own)) (dL, fd) ⟨some1 h, (tr_ (su_ aT z) (su_ b8 z)), dM⟩ (.cons z (.cons z (.cons z .nil)))
       ·refine WC.condF' z aK (sk ?_)
        obtain ⟨fe, b9, dN⟩ := OwnSl.rlb 1015 rfl a9
        exact At.join (σ := (List Bool × Own)) (bX, fe) ⟨some1 h, (su_ b9 z), dN⟩ (.cons z (.cons z (.cons z .nil)))
      ·rintro ⟨dO, gp⟩ dP ⟨rfl, K, aP⟩
       replace h := ds
       try dsimp only at h K aP
       refine (show At _ _ _ [(4, pt j 0), (7, vi c), (8, a)] _ from ?_)
       refine th (sq (rg (wY (ym z) z ?_)))
       have dQ := h
       obtain ⟨M, P, Q, rfl⟩ := aP.shape
       have h := dQ
       refine wY (yb (vals := [(2, (vl M P Q))]) (cells := [vB false, vB false, (vl M P Q), vb 0]) (fe_ z) (by kernel_rfl)) z ?_
       obtain ⟨ca, Z, dR⟩ := OwnSl.giveF rfl Flat.B aP
       have dS : Stp [12, 13, 14, 1001, 1002, 1003, 1004, 1005, 1006, 1008, 1011, 1012, 1013, 1015] (Lg.O0 (fun _ => False)) w ca dP := (tr_ (su_ H z) (tr_ (su_ p z) (tr_ (su_ t z) (tr_ (su_ X z) (tr_ (su_ K z) (su_ Z z))))))
       refine WL.buildSlice (O := ca) (R := (frR rep_ref32_Piece w.heap.size)) (vals := [(0, ag [vB false, vB false, (vl M P Q), vb 0])]) 15 [vB false, vB false, (vl M P Q), vb 0] (xs := [(ref32_Piece.mk false false dO 0)]) (by decide) ty61 ty91 (show 0 < rep_ref32_Piece.n by decide) (show 1 * rep_ref32_Piece.n ≤ 65536 by decide) (fe_ z) (by kernel_rfl) z ⟨[vB false, vB false, (vl M P Q), vb 0], [], z, ⟨[vB false], [vB false, (vl M P Q), vb 0], z, z, ⟨[vB false], [(vl M P Q), vb 0], z, z, ⟨[(vl M P Q)], [vb 0], z, ⟨_, z, (Sl.frB dR dS low0)⟩, z⟩⟩⟩, z⟩ z ?_
       intro gq ff f7 am bo
       refine wY (ym z) z (wY (Y.add_i z z) z ?_)
       have dT := h
       obtain ⟨ad, ae, af, rfl⟩ := bo.shape
       have h := dT
       refine wY (yb (vals := [(0, (vl ad ae af)), (1, vi (w64 (c + 1)))]) (cells := [(vl ad ae af), vi (w64 (c + 1)), vi 0]) (fe_ z) (by kernel_rfl)) z ?_
       have dZ := (((((aj.st p z).st t z).st X z).st K z).st Z z).st am z
       refine WL.store (v := ag [(vl ad ae af), vi (w64 (c + 1)), vi 0]) (cells' := [(vl ad ae af), vi (w64 (c + 1)), vi 0]) ty63 z z dZ z (le_ z) z z ?_
       intro bp an d0
       refine nl (th (rt ?_))
       obtain rfl := some1 h
       have d1 := bo.st an z z z
       have d2 : Stp [11, 12, 13, 14, 1001, 1002, 1003, 1004, 1005, 1006, 1008, 1011, 1012, 1013, 1015] (Lg.O0 (fun _ => False)) w ff bp := (tr_ (su_ H z) (tr_ (su_ p z) (tr_ (su_ t z) (tr_ (su_ X z) (tr_ (su_ K z) (tr_ (su_ Z z) (tr_ (su_ am z) (su_ an z))))))))
       obtain ⟨fg, aU, d3⟩ := OwnSl.giveB rfl d1 d2 low0
       have d4 : Stp [11, 12, 13, 14, 15, 1001, 1002, 1003, 1004, 1005, 1006, 1008, 1011, 1012, 1013, 1015] (Lg.O0 (fun _ => False)) w fg bp := (tr_ (su_ H z) (tr_ (su_ p z) (tr_ (su_ t z) (tr_ (su_ X z) (tr_ (su_ K z) (tr_ (su_ Z z) (tr_ (su_ am z) (tr_ (su_ an z) (su_ aU z)))))))))
       have d5 := d0.st aU z
       exact At.res (.inl z) z (.cell z (d5.runAg 0 [(vl ad ae af), vi (w64 (c + 1)), vi 0] ty63 z z z) .nil) ⟨(vl ad ae af), z, (se_ d4 z z), (Sl.outFb d3)⟩
theorem c_ref32_plain {a0 : UInt8} {w : World} {r0 : ref32_Piece} (h : ref32_plain a0 = some r0) : Rets Tryd.prog 46 [vb a0] w (fun v w' => ∃ (D : Value), v = ag [vB r0.Many, vB r0.Plain, D, vb r0.C] ∧ Ext w w' ∧ RowF Rep.B 4 w w' D r0.In) := by
 unfold ref32_plain at h
 refine Rets.enter Tryd.func46 z z ?_
 refine (show WC _ _ _ _ [(0, vb a0)] _ from ?_)
 refine sq (rg (WL.alloc (O := (Lg.O0 (fun _ => False))) 11 [vB false, vB false, sn, vb 0] ty91 z z ?_))
 intro ar af an J Q
 refine nl (th (sq (rg ?_)))
 obtain ⟨ah, S, h⟩ := bnd h
 refine WL.call (vals := [vB false]) kok47 z z (c_ref32_nothing S) ?_
 rintro F T ⟨_, rfl, U, ai⟩
 obtain ⟨P, aj, G, q⟩ := adoptE af (fun k => if ob F = some k then 12 else 1) U
 have m : OwnSl 12 Rep.B 4 P T F ah := RowF.adopt 12 Flat.B ai G (fun k hk => if_pos hk)
 refine wY (ya z) z (nl (th (sq (rg (wY (ym z) z (wY (ym z) z (wY (Y.conv_bi ty5.u ty3.u z) z ?_)))))))
 obtain ⟨ak, V, h⟩ := bnd h
 obtain ⟨au, al, ao, o, W, X, p, K⟩ := OwnSl.at m V
 obtain rfl := K
 replace p : CellsAt _ _ _ [vB ak] := p
 have am := CAt.own m o p
 refine wY (Y.indexAddr ty89 ty4 z o z W X) z ?_
 obtain ⟨ap, M, h⟩ := bnd h
 refine WL.storeOwn (by decide) ty4 z z z m o M ?_
 intro aq r H
 refine nl (th (sq (rg (wY (ym z) z (wY (ym z) z ?_)))))
 have Z := h
 obtain ⟨a, c, j, rfl⟩ := H.shape
 have h := Z
 refine wY (yb (vals := [(1, vB true), (2, (vl a c j)), (3, vb a0)]) (cells := [vB false, vB true, (vl a c j), vb a0]) (fe_ z) (by kernel_rfl)) z ?_
 have ab := (Q.st q z).st r z
 refine WL.store (v := ag [vB false, vB true, (vl a c j), vb a0]) (cells' := [vB false, vB true, (vl a c j), vb a0]) ty91 z z ab z (le_ z) z z ?_
 intro ac t ad
 refine nl (th (rt ?_))
 obtain rfl := some1 h
 have I : Stp [11, 12] (Lg.O0 (fun _ => False)) w P ac := (tr_ (su_ J z) (tr_ (su_ q z) (tr_ (su_ r z) (su_ t z))))
 have ae := H.st t z z z
 exact At.res (.inl z) z (.cell z (ad.runAg 0 [vB false, vB true, (vl a c j), vb a0] ty91 z z z) .nil) ⟨(vl a c j), z, (se_ I z z), (OwnSl.outF ae I low0 z)⟩
theorem c_ref32_Compile {a0 : List UInt8} {w : World} {r0 : ref32_Got} (h : ref32_Compile a0 = some r0) : Rets Tryd.prog 23 [vs a0] w (fun v w' => ∃ (a7 : Value), v = ag [a7, vi r0.At, vi r0.E] ∧ Ext w w' ∧ Sl rep_ref32_Piece w' (fun k => w.heap.size ≤ k) a7 r0.L) := by
 unfold ref32_Compile at h
 refine Rets.enter Tryd.func23 z z ?_
 refine (show WC _ _ _ _ [(0, vs a0)] _ from ?_)
 refine sq (rg (WL.alloc (O := (Lg.O0 (fun _ => False))) 11 [sn, vi 0, vi 0] ty63 z z ?_))
 intro aa aQ a8 o ap
 refine nl (th (sq (sq (rg (wY (ym z) z (wY (Y.len_s ty9 z) z (wY (Y.gtr_i z z) z (nl (th ?_)))))))))
 rcases cnd h with ⟨aH, h⟩ | ⟨aH, h⟩
 ·refine WC.condT' z aH (sq (rg (wY (yb (vals := [(1, vi 64), (2, vi 4)]) (cells := [sn, vi 64, vi 4]) (fe_ z) (by kernel_rfl)) z (WL.store (v := ag [sn, vi 64, vi 4]) (cells' := [sn, vi 64, vi 4]) ty63 z z ap z (le_ z) z z ?_))))
  intro c8 bL c9
  refine nl (th (rt (At.thenR ?_)))
  obtain rfl := some1 h
  have da : Stp [11] (Lg.O0 (fun _ => False)) w aQ c8 := (tr_ (su_ o z) (su_ bL z))
  exact At.res (.inl z) z (.cell z (c9.runAg 0 [sn, vi 64, vi 4] ty63 z z z) .nil) ⟨sn, z, (se_ da z z), (Or.inl ⟨z, z⟩)⟩
 ·refine WC.condF' z aH (sk (th (sq (rg (wY (ya z) z (nl (th (sq (rg ?_)))))))))
  refine wY (ya z) z (nl (th (sq (WC.block ?_))))
  obtain ⟨c3, h, aI⟩ := flow1 h
  obtain ⟨c4, h⟩ := loop_some h
  refine WC.joinB 0 (σ := (List ref32_Piece × Own × Value)) (fun x w' => c3 = .go x.1 ∧ Stp [12, 14, 15, 17, 19, 20, 22, 23, 25, 1001, 1002, 1003] aQ a8 x.2.1 w' ∧ OwnSl 1004 (frR rep_ref32_Piece w.heap.size) 91 x.2.1 w' x.2.2 x.1) (fun x => [(2, pt aa 0), (3, x.2.2)]) ?_ ?_
  ·refine WC.loop (σ := (List ref32_Piece × Int × Own × Value)) (fun x k w' => loopN k (ref32_Compile_lp1 a0) (x.1, x.2.1) = some c3 ∧ Stp [12, 14, 15, 17, 19, 20, 22, 23, 25, 1001, 1002, 1003] aQ a8 x.2.2.1 w' ∧ OwnSl 1003 (frR rep_ref32_Piece w.heap.size) 91 x.2.2.1 w' x.2.2.2 x.1) (fun x => [(0, vs a0), (2, pt aa 0), (3, x.2.2.2), (4, vi x.2.1)]) ([], 0, aQ, sn) c4 (.cons z (.cons z (.cons z (.cons z .nil)))) ⟨h, (sr_ _ _ _), (OwnSl.nil 1003 (frR rep_ref32_Piece w.heap.size) 91)⟩ ?_
   rintro ⟨dZ, q, ab, c5⟩ c4 a9 ⟨h, j, H⟩
   obtain ⟨d0, eN, rfl, h, aq⟩ := rnd1 h
   unfold ref32_Compile_lp1 at h
   try dsimp only at h j H
   refine (show WC _ _ _ _ [(0, vs a0), (2, pt aa 0), (3, c5), (4, vi q)] _ from ?_)
   refine sq (sq (rg (wY (ym z) z (wY (ym z) z (wY (Y.len_s ty9 z) z (wY (Y.lss_i z z) z (nl (th ?_))))))))
   rcases cnd h with ⟨aJ, h⟩ | ⟨aJ, h⟩
   ·refine WC.condT' z aJ (sk (th ?_))
    obtain ⟨d1, h, aK⟩ := flow1 h
    refine WC.join (σ := (List ref32_Piece × Int × Own × Value)) (fun x w' => d1 = .go (x.1, x.2.1) ∧ Stp [12, 14, 17, 19, 1001, 1003] ab a9 x.2.2.1 w' ∧ OwnSl 1002 (frR rep_ref32_Piece w.heap.size) 91 x.2.2.1 w' x.2.2.2 x.1) (fun x => [(0, vs a0), (2, pt aa 0), (3, x.2.2.2), (4, vi x.2.1)]) ?_ ?_
    ·refine WC.block (sq (rg (wY (ym z) z (wY (ym z) z ?_))))
     obtain ⟨d2, db, h⟩ := bnd h
     refine wY (Y.index_s ty9 z z db) z (wY (ya z) z (nl (th (sq (sq (rg (wY (ym z) z (wY (Y.eql_b (b := 91) z z) z (nl ?_)))))))))
     refine th ?_
     rcases cnd h with ⟨aL, h⟩ | ⟨aL, h⟩
     ·refine WC.condT' z aL (sq (rg (wY (ym z) z (wY (ym z) z ?_))))
      obtain ⟨p, dc, h⟩ := bnd h
      refine WL.call (vals := [vs a0, vi q]) kok45 z z (c_ref32_set dc) ?_
      rintro er dd ⟨d3, rfl, de, d4⟩
      obtain ⟨c6, d5, ba, I⟩ := adoptE ab (fun k => 1) de
      have df : Sl rep_ref32_Piece dd (frs c6) d3 p.L := Sl.adoptF d4 (fun k hk => ⟨hk, z⟩) ba
      refine WL.alloc (O := c6) 12 [sn, vi 0, vi 0] ty63 z z ?_
      intro eO bb es G dg
      have aM := df.f G z
      have dh := h
      obtain ⟨ad, ae, af, rfl⟩ := aM.shape
      have h := dh
      refine WL.store (v := ag [(vl ad ae af), vi p.At, vi p.E]) (cells' := [(vl ad ae af), vi p.At, vi p.E]) ty63 z z dg z (le_ z) z z ?_
      intro di r ar
      refine nl (th (sq (sq (rg (wY (yf fo63_2 z) z (wY (yl ty25 z z (ar.cell 2 _ z)) z (wY (Y.neq_i z z) z (nl (th ?_)))))))))
      rcases cnd h with ⟨aN, h⟩ | ⟨aN, h⟩
      ·refine WC.condT' z aN (sq (rg (wY (yL ty63 z z (ar.cells 0 [(vl ad ae af), vi p.At, vi p.E] z) z) z ?_)))
       have dm := (((ap.st j z).st I z).st G z).st r z
       refine WL.store (v := ag [(vl ad ae af), vi p.At, vi p.E]) (cells' := [(vl ad ae af), vi p.At, vi p.E]) ty63 z z dm z (le_ z) z z ?_
       intro dn aR dp
       refine nl (th (rt (At.thenR (At.thenR (At.inBlockR ?_)))))
       have h := outs1 h aK
       refine At.joinR (At.loopR ?_)
       have h := outr1 h aq aI
       refine At.joinBR (At.inBlockR (At.thenR ?_))
       obtain rfl := some1 h
       have bc : Stp [11, 12, 14, 15, 17, 19, 20, 22, 23, 25, 1001, 1002, 1003] (Lg.O0 (fun _ => False)) w bb dn := (tr_ (su_ o z) (tr_ (su_ j z) (tr_ (su_ I z) (tr_ (su_ G z) (tr_ (su_ r z) (su_ aR z))))))
       have ds := (aM.f r z).f aR z
       exact At.res (.inl z) z (.cell z (dp.runAg 0 [(vl ad ae af), vi p.At, vi p.E] ty63 z z z) .nil) ⟨(vl ad ae af), z, (se_ bc z z), (Sl.outF ds bc low0)⟩
      ·refine WC.condF' z aN (sk (th (sq (rg (wY (ym z) z (wY (yf fo63_0 z) z (wY (yl ty61 z z (ar.cell 0 _ z)) z ?_)))))))
       obtain ⟨m, dt, h⟩ := bnd h
       have du := aM.f r z
       obtain ⟨eP, d6, eb, et, dw, dx, dy, aO, bM, bO⟩ := Sl.at2 du dt
       obtain ⟨_, _, rfl, rfl, ⟨_, _, rfl, rfl, ⟨_, _, rfl, ⟨d7, rfl, bd⟩, rfl⟩⟩⟩ := bM
       replace aO : CellsAt _ _ _ [vB m.Many, vB m.Plain, d7, vb m.C] := aO
       have bf := CAt.frs aO bO
       refine wY (Y.indexAddr ty61 ty91 z dw z dx dy) z (wY (yL ty91 z z bf.at_ z) z ?_)
       have bP := h
       obtain ⟨J, K, M, rfl⟩ := bd.shape
       have h := bP
       have bQ : Stp [12, 14, 15, 17, 19, 20, 22, 23, 25, 1001, 1002, 1003] (Lg.O0 (fun _ => False)) w bb di := (tr_ (su_ o z) (tr_ (su_ j z) (tr_ (su_ I z) (tr_ (su_ G z) (su_ r z)))))
       refine WL.buildSlice (O := bb) (R := (frR rep_ref32_Piece w.heap.size)) (vals := [(0, ag [vB m.Many, vB m.Plain, (vl J K M), vb m.C])]) 13 [vB m.Many, vB m.Plain, (vl J K M), vb m.C] (xs := [m]) (by decide) ty61 ty91 (show 0 < rep_ref32_Piece.n by decide) (show 1 * rep_ref32_Piece.n ≤ 65536 by decide) (fe_ z) (by kernel_rfl) z ⟨[vB m.Many, vB m.Plain, (vl J K M), vb m.C], [], z, ⟨[vB m.Many], [vB m.Plain, (vl J K M), vb m.C], z, z, ⟨[vB m.Plain], [(vl J K M), vb m.C], z, z, ⟨[(vl J K M)], [vb m.C], z, ⟨_, z, (Sl.frB bd bQ low0)⟩, z⟩⟩⟩, z⟩ z ?_
       intro eu ew ec ah bR
       obtain ⟨bS, bg, h⟩ := bnd h
       have bX := (((H.st I z z z).st G z z z).st r z z z).st ah z z z
       refine WL.append (by decide) ty61 ty91 z (by decide) z z bX bR.src bg z ?_
       intro dz ex ed az bY
       refine wY (ya z) z (nl (th (sq (rg (wY (yf fo63_1 z) z ?_)))))
       have b0 := (ar.st ah z).st az z
       refine wY (yl ty3 z z (b0.cell 1 _ z)) z (wY (ya z) z (nl (th (WC.exit (At.thenX (At.inBlockHit ?_))))))
       obtain ⟨dA, bh, b1⟩ := OwnSl.rlb 1002 rfl bY
       exact At.join (σ := (List ref32_Piece × Int × Own × Value)) (bS, p.At, dA, dz) ⟨go2 h, (tr_ (su_ I z) (tr_ (su_ G z) (tr_ (su_ r z) (tr_ (su_ ah z) (tr_ (su_ az z) (su_ bh z)))))), b1⟩ (.cons z (.cons z (.cons z (.cons z .nil))))
     ·refine WC.condF' z aL (sk (th (sq (sq (rg (wY (ym z) z (wY (Y.eql_b (b := 92) z z) z (nl (th ?_)))))))))
      rcases cnd h with ⟨au, h⟩ | ⟨au, h⟩
      ·refine WC.condT' z au (sq (sq (rg (wY (ym z) z (wY (Y.add_i z z) z (wY (ym z) z (wY (Y.len_s ty9 z) z (wY (Y.eql_i z z) z (nl ?_)))))))))
       refine th ?_
       rcases cnd h with ⟨av, h⟩ | ⟨av, h⟩
       ·refine WC.condT' z av (sq (rg (wY (ym z) z (wY (yb (vals := [(1, vi q), (2, vi 2)]) (cells := [sn, vi q, vi 2]) (fe_ z) (by kernel_rfl)) z ?_))))
        have b2 := ap.st j z
        refine WL.store (v := ag [sn, vi q, vi 2]) (cells' := [sn, vi q, vi 2]) ty63 z z b2 z (le_ z) z z ?_
        intro b3 bi b4
        refine nl (th (rt (At.thenR (At.thenR (At.inBlockR ?_)))))
        have h := outs1 h aK
        refine At.joinR (At.loopR ?_)
        have h := outr1 h aq aI
        refine At.joinBR (At.inBlockR (At.thenR ?_))
        obtain rfl := some1 h
        have b5 : Stp [11, 12, 14, 15, 17, 19, 20, 22, 23, 25, 1001, 1002, 1003] (Lg.O0 (fun _ => False)) w ab b3 := (tr_ (su_ o z) (tr_ (su_ j z) (su_ bi z)))
        exact At.res (.inl z) z (.cell z (b4.runAg 0 [sn, vi q, vi 2] ty63 z z z) .nil) ⟨sn, z, (se_ b5 z z), (Or.inl ⟨z, z⟩)⟩
       ·refine WC.condF' z av (sk (th (sq (rg (wY (ym z) z (wY (ym z) z (wY (ym z) z (wY (Y.add_i z z) z ?_))))))))
        obtain ⟨dB, b6, h⟩ := bnd h
        refine wY (Y.index_s ty9 z z b6) z ?_
        obtain ⟨a, b7, h⟩ := bnd h
        refine WL.call (vals := [vb dB]) kok46 z z (c_ref32_plain b7) ?_
        rintro ee aS ⟨bj, rfl, b8, dC⟩
        obtain ⟨dD, dW, a4, ai⟩ := adoptE ab (fun k => if ob bj = some k then 14 else 1) b8
        have aT : OwnSl 14 Rep.B 4 dD aS bj a.In := RowF.adopt 14 Flat.B dC a4 (fun k hk => if_pos hk)
        have b9 := h
        obtain ⟨P, Q, S, rfl⟩ := aT.shape
        have h := b9
        obtain ⟨bk, aj, ca⟩ := OwnSl.giveF rfl Flat.B aT
        have cb : Stp [12, 14, 15, 17, 19, 20, 22, 23, 25, 1001, 1002, 1003] (Lg.O0 (fun _ => False)) w bk aS := (tr_ (su_ o z) (tr_ (su_ j z) (tr_ (su_ ai z) (su_ aj z))))
        refine WL.buildSlice (O := bk) (R := (frR rep_ref32_Piece w.heap.size)) (vals := [(0, ag [vB a.Many, vB a.Plain, (vl P Q S), vb a.C])]) 15 [vB a.Many, vB a.Plain, (vl P Q S), vb a.C] (xs := [a]) (by decide) ty61 ty91 (show 0 < rep_ref32_Piece.n by decide) (show 1 * rep_ref32_Piece.n ≤ 65536 by decide) (fe_ z) (by kernel_rfl) z ⟨[vB a.Many, vB a.Plain, (vl P Q S), vb a.C], [], z, ⟨[vB a.Many], [vB a.Plain, (vl P Q S), vb a.C], z, z, ⟨[vB a.Plain], [(vl P Q S), vb a.C], z, z, ⟨[(vl P Q S)], [vb a.C], z, ⟨_, z, (Sl.frB ca cb low0)⟩, z⟩⟩⟩, z⟩ z ?_
        intro ey ez ef aA cc
        obtain ⟨cd, bl, h⟩ := bnd h
        have cg := ((H.st ai z z z).st aj z z z).st aA z z z
        refine WL.append (by decide) ty61 ty91 z (by decide) z z cg cc.src bl z ?_
        intro dE eA eg bm ch
        refine wY (ya z) z (nl (th (sq (rg (wY (ym z) z (wY (Y.add_i z z) z ?_))))))
        obtain ⟨ci, bn, h⟩ := lt1 h
        refine WL.yE (ya z) (congrArg vi bn.symm) z (nl (th (WC.exit (At.thenX (At.inBlockHit ?_)))))
        obtain ⟨dF, bo, cj⟩ := OwnSl.rlb 1002 rfl ch
        exact At.join (σ := (List ref32_Piece × Int × Own × Value)) (cd, ci, dF, dE) ⟨go2 h, (tr_ (su_ ai z) (tr_ (su_ aj z) (tr_ (su_ aA z) (tr_ (su_ bm z) (su_ bo z))))), cj⟩ (.cons z (.cons z (.cons z (.cons z .nil))))
      ·refine WC.condF' z au (sk (th (sq ?_)))
       obtain ⟨dG, h, ck⟩ := bnd h
       refine WC.join (σ := (List ref32_Piece × Own × Value)) (fun x w' => x.1 = dG ∧ Stp [17, 19, 1003] ab a9 x.2.1 w' ∧ OwnSl 1001 (frR rep_ref32_Piece w.heap.size) 91 x.2.1 w' x.2.2 x.1) (fun x => [(0, vs a0), (2, pt aa 0), (3, x.2.2), (4, vi q)]) ?_ ?_
       ·refine sq (rg (wY (ym z) z (wY (Y.eql_b (b := 42) z z) z (nl (th ?_)))))
        rcases cnd h with ⟨ax, h⟩ | ⟨ax, h⟩
        ·refine WC.condT' z ax (rg (wY (ym z) z (wY (yb (vals := [(0, vB true)]) (cells := [vB true, vB false, sn, vb 0]) (fe_ z) (by kernel_rfl)) z (WL.buildSlice (O := ab) (R := (frR rep_ref32_Piece w.heap.size)) (vals := [(0, ag [vB true, vB false, sn, vb 0])]) 16 [vB true, vB false, sn, vb 0] (xs := [(ref32_Piece.mk true false [] 0)]) (by decide) ty61 ty91 (show 0 < rep_ref32_Piece.n by decide) (show 1 * rep_ref32_Piece.n ≤ 65536 by decide) (fe_ z) (by kernel_rfl) z ⟨[vB true, vB false, sn, vb 0], [], z, ⟨[vB true], [vB false, sn, vb 0], z, z, ⟨[vB false], [sn, vb 0], z, z, ⟨[sn], [vb 0], z, ⟨_, z, (Or.inl ⟨z, z⟩)⟩, z⟩⟩⟩, z⟩ z ?_))))
         intro eB eC eh aC cl
         obtain ⟨cm, bp, h⟩ := bnd h
         have cn := H.st aC z z z
         refine WL.append (by decide) ty61 ty91 z (by decide) z z cn cl.src bp z ?_
         intro dH eD ei bq co
         refine wY (ya z) z (nl ?_)
         obtain ⟨dI, br, cq⟩ := OwnSl.rlb 1001 rfl co
         exact At.join (σ := (List ref32_Piece × Own × Value)) (cm, dI, dH) ⟨some1 h, (tr_ (su_ aC z) (tr_ (su_ bq z) (su_ br z))), cq⟩ (.cons z (.cons z (.cons z (.cons z .nil))))
        ·refine WC.condF' z ax (sq (rg (wY (ym z) z (wY (Y.eql_b (b := 63) z z) z (nl (th ?_))))))
         rcases cnd h with ⟨ay, h⟩ | ⟨ay, h⟩
         ·refine WC.condT' z ay (rg (wY (ym z) z ?_))
          obtain ⟨bs, cr, h⟩ := bnd h
          refine WL.call (vals := [vB true]) kok47 z z (c_ref32_nothing cr) ?_
          rintro aU aW ⟨_, rfl, cs, dJ⟩
          obtain ⟨dK, dX, a5, ak⟩ := adoptE ab (fun k => if ob aU = some k then 17 else 1) cs
          have aX : OwnSl 17 Rep.B 4 dK aW aU bs := RowF.adopt 17 Flat.B dJ a5 (fun k hk => if_pos hk)
          have ct := h
          obtain ⟨t, D, F, rfl⟩ := aX.shape
          have h := ct
          refine wY (yb (vals := [(2, (vl t D F))]) (cells := [vB false, vB false, (vl t D F), vb 0]) (fe_ z) (by kernel_rfl)) z ?_
          obtain ⟨bt, al, cu⟩ := OwnSl.giveF rfl Flat.B aX
          have cw : Stp [12, 14, 15, 17, 19, 20, 22, 23, 25, 1001, 1002, 1003] (Lg.O0 (fun _ => False)) w bt aW := (tr_ (su_ o z) (tr_ (su_ j z) (tr_ (su_ ak z) (su_ al z))))
          refine WL.buildSlice (O := bt) (R := (frR rep_ref32_Piece w.heap.size)) (vals := [(0, ag [vB false, vB false, (vl t D F), vb 0])]) 18 [vB false, vB false, (vl t D F), vb 0] (xs := [(ref32_Piece.mk false false bs 0)]) (by decide) ty61 ty91 (show 0 < rep_ref32_Piece.n by decide) (show 1 * rep_ref32_Piece.n ≤ 65536 by decide) (fe_ z) (by kernel_rfl) z ⟨[vB false, vB false, (vl t D F), vb 0], [], z, ⟨[vB false], [vB false, (vl t D F), vb 0], z, z, ⟨[vB false], [(vl t D F), vb 0], z, z, ⟨[(vl t D F)], [vb 0], z, ⟨_, z, (Sl.frB cu cw low0)⟩, z⟩⟩⟩, z⟩ z ?_
          intro eE eF ej aD cx
          obtain ⟨cy, bu, h⟩ := bnd h
          have cC := ((H.st ak z z z).st al z z z).st aD z z z
          refine WL.append (by decide) ty61 ty91 z (by decide) z z cC cx.src bu z ?_
          intro dL eG ek bw cD
          refine wY (ya z) z (nl ?_)
          obtain ⟨dM, bx, cE⟩ := OwnSl.rlb 1001 rfl cD
          exact At.join (σ := (List ref32_Piece × Own × Value)) (cy, dM, dL) ⟨some1 h, (tr_ (su_ ak z) (tr_ (su_ al z) (tr_ (su_ aD z) (tr_ (su_ bw z) (su_ bx z))))), cE⟩ (.cons z (.cons z (.cons z (.cons z .nil))))
         ·refine WC.condF' z ay (rg (wY (ym z) z (wY (ym z) z ?_)))
          obtain ⟨c, cF, h⟩ := bnd h
          refine WL.call (vals := [vb d2]) kok46 z z (c_ref32_plain cF) ?_
          rintro em aY ⟨bz, rfl, cG, dN⟩
          obtain ⟨dO, dY, a6, am⟩ := adoptE ab (fun k => if ob bz = some k then 19 else 1) cG
          have aZ : OwnSl 19 Rep.B 4 dO aY bz c.In := RowF.adopt 19 Flat.B dN a6 (fun k hk => if_pos hk)
          have cH := h
          obtain ⟨T, U, V, rfl⟩ := aZ.shape
          have h := cH
          obtain ⟨bA, an, cI⟩ := OwnSl.giveF rfl Flat.B aZ
          have cJ : Stp [12, 14, 15, 17, 19, 20, 22, 23, 25, 1001, 1002, 1003] (Lg.O0 (fun _ => False)) w bA aY := (tr_ (su_ o z) (tr_ (su_ j z) (tr_ (su_ am z) (su_ an z))))
          refine WL.buildSlice (O := bA) (R := (frR rep_ref32_Piece w.heap.size)) (vals := [(0, ag [vB c.Many, vB c.Plain, (vl T U V), vb c.C])]) 20 [vB c.Many, vB c.Plain, (vl T U V), vb c.C] (xs := [c]) (by decide) ty61 ty91 (show 0 < rep_ref32_Piece.n by decide) (show 1 * rep_ref32_Piece.n ≤ 65536 by decide) (fe_ z) (by kernel_rfl) z ⟨[vB c.Many, vB c.Plain, (vl T U V), vb c.C], [], z, ⟨[vB c.Many], [vB c.Plain, (vl T U V), vb c.C], z, z, ⟨[vB c.Plain], [(vl T U V), vb c.C], z, z, ⟨[(vl T U V)], [vb c.C], z, ⟨_, z, (Sl.frB cI cJ low0)⟩, z⟩⟩⟩, z⟩ z ?_
          intro eH eI en aE cK
          obtain ⟨cL, bB, h⟩ := bnd h
          have cO := ((H.st am z z z).st an z z z).st aE z z z
          refine WL.append (by decide) ty61 ty91 z (by decide) z z cO cK.src bB z ?_
          intro dP eJ eo bC cP
          refine wY (ya z) z (nl ?_)
          obtain ⟨dQ, bD, cQ⟩ := OwnSl.rlb 1001 rfl cP
          exact At.join (σ := (List ref32_Piece × Own × Value)) (cL, dQ, dP) ⟨some1 h, (tr_ (su_ am z) (tr_ (su_ an z) (tr_ (su_ aE z) (tr_ (su_ bC z) (su_ bD z))))), cQ⟩ (.cons z (.cons z (.cons z (.cons z .nil))))
       ·rintro ⟨dR, eK, bE⟩ ep ⟨rfl, aF, a1⟩
        replace h := ck
        try dsimp only at h aF a1
        refine (show At _ _ _ [(0, vs a0), (2, pt aa 0), (3, bE), (4, vi q)] _ from ?_)
        refine th (rg (wY (ym z) z (wY (Y.add_i z z) z ?_)))
        obtain ⟨cR, bF, h⟩ := lt1 h
        refine WL.yE (ya z) (congrArg vi bF.symm) z (nl (At.inBlock ?_))
        obtain ⟨dS, bG, cS⟩ := OwnSl.rlb 1002 rfl a1
        exact At.join (σ := (List ref32_Piece × Int × Own × Value)) (dR, cR, dS, bE) ⟨go2 h, (tr_ (su_ aF z) (su_ bG z)), cS⟩ (.cons z (.cons z (.cons z (.cons z .nil))))
    ·rintro ⟨d8, bH, eQ, c7⟩ eL ⟨rfl, a2, bI⟩
     replace h := flowK_go aK
     try dsimp only at h a2 bI
     refine (show At _ _ _ [(0, vs a0), (2, pt aa 0), (3, c7), (4, vi bH)] _ from ?_)
     obtain ⟨dT, bJ, cT⟩ := OwnSl.rlb 1003 rfl bI
     exact At.round (d8, bH, dT, c7) d0 (Nat.lt_succ_self _) ⟨next1 h aq, (tr_ (su_ j z) (tr_ (su_ a2 z) (su_ bJ z))), cT⟩ (.cons z (.cons z (.cons z (.cons z .nil))))
   ·refine WC.condF' z aJ (WC.exit (At.thenX (At.loopX ?_)))
    obtain ⟨dU, bK, cU⟩ := OwnSl.rlb 1004 rfl H
    exact At.hitB (σ := (List ref32_Piece × Own × Value)) (dZ, dU, c5) ⟨brk1 h aq, (tr_ (su_ j z) (su_ bK z)), cU⟩ (.cons z (.cons z .nil))
  ·rintro ⟨eR, d9, ea⟩ eM ⟨rfl, ac, aP⟩
   replace h := flowK_go aI
   try dsimp only at h ac aP
   refine (show At _ _ _ [(2, pt aa 0), (3, ea)] _ from ?_)
   refine At.inBlockHit (th (sq (rg (wY (ym z) z ?_))))
   have cV := h
   obtain ⟨W, X, Z, rfl⟩ := aP.shape
   have h := cV
   refine wY (yb (vals := [(0, (vl W X Z))]) (cells := [(vl W X Z), vi 0, vi 0]) (fe_ z) (by kernel_rfl)) z ?_
   have cW := ap.st ac z
   refine WL.store (v := ag [(vl W X Z), vi 0, vi 0]) (cells' := [(vl W X Z), vi 0, vi 0]) ty63 z z cW z (le_ z) z z ?_
   intro a3 ao cX
   refine nl (th (rt ?_))
   obtain rfl := some1 h
   have cY := aP.st ao z z z
   have cZ : Stp [11, 12, 14, 15, 17, 19, 20, 22, 23, 25, 1001, 1002, 1003] (Lg.O0 (fun _ => False)) w d9 a3 := (tr_ (su_ o z) (tr_ (su_ ac z) (su_ ao z)))
   obtain ⟨dV, aG, c0⟩ := OwnSl.giveB rfl cY cZ low0
   have c1 : Stp [11, 12, 14, 15, 17, 19, 20, 22, 23, 25, 1001, 1002, 1003, 1004] (Lg.O0 (fun _ => False)) w dV a3 := (tr_ (su_ o z) (tr_ (su_ ac z) (tr_ (su_ ao z) (su_ aG z))))
   have c2 := cX.st aG z
   exact At.res (.inl z) z (.cell z (c2.runAg 0 [(vl W X Z), vi 0, vi 0] ty63 z z z) .nil) ⟨(vl W X Z), z, (se_ c1 z z), (Sl.outFb c0)⟩
theorem c_ref11_Name {a0 : List UInt8} {w : World} {r0 : Bool} (h : ref11_Name a0 = some r0) : Rets Tryd.prog 24 [vs a0] w (fun v w' => v = vB r0 ∧ Ext w w') := by
 unfold ref11_Name at h
 refine Rets.enter Tryd.func24 z z ?_
 refine (show WC _ _ _ _ [(0, vs a0)] _ from ?_)
 refine sq (rg (wY (ya z) z (nl (th (sq (sq (rg (wY (ym z) z (wY (Y.len_s ty9 z) z ?_)))))))))
 refine wY (Y.lss_i z z) z (wY (ym z) z ?_)
 refine WL.cut 4 (σ := Unit) (fun _ w' => w = w') (fun _ => [(0, vs a0), (14, vB ((decide ((a0.length : Int) < 1)) || (decide (32 < (a0.length : Int)))))]) ?_ ?_
 ·refine WL.part 10 z (fun q => ?_) (fun q => ?_)
  ·refine WL.gS z z z z (WL.gS z z z z (WL.gS z z z z (wY (Y.pick (b := true) z z) z (WL.ren (v' := vB ((decide ((a0.length : Int) < 1)) || (decide (32 < (a0.length : Int))))) 14 z (congrArg vB (orT q)) ?_))))
   exact nl (At.join () z (.cons z (.cons z .nil)))
  ·refine ug z z (wY (ym z) z (ug z z (wY (Y.len_s ty9 z) z (ug z z (wY (Y.gtr_i z z) z (wY (Y.pick (b := false) z z) z (WL.ren (v' := vB ((decide ((a0.length : Int) < 1)) || (decide (32 < (a0.length : Int))))) 14 z (congrArg vB (orF q)) ?_)))))))
   exact nl (At.join () z (.cons z (.cons z .nil)))
 ·rintro _ _ rfl
  refine (show WL _ _ _ _ _ [(0, vs a0), (14, vB ((decide ((a0.length : Int) < 1)) || (decide (32 < (a0.length : Int)))))] _ from ?_)
  refine nl (th ?_)
  rcases cnd h with ⟨r, h⟩ | ⟨r, h⟩
  ·refine WC.condT' z r (sq (rg (wY (ya z) z (nl (th (rt (At.thenR ?_)))))))
   obtain rfl := some1 h
   have T : Stp [] (Lg.O0 (fun _ => False)) w (Lg.O0 (fun _ => False)) w := (sr_ _ _ _)
   exact At.res (.inl z) z (.tmp z .nil) ⟨z, (se_ T z z)⟩
  ·refine WC.condF' z r (sk (th (sq (sq (rg (wY (ya z) z (nl (th (WC.block ?_)))))))))
   obtain ⟨Q, h, P⟩ := flow1 h
   obtain ⟨S, h⟩ := loop_some h
   refine WC.joinB 0 (σ := Unit) (fun x w' => Q = .go () ∧ w = w') (fun x => []) ?_ ?_
   ·refine WC.loop (σ := Int) (fun x k w' => loopN k (ref11_Name_lp1 a0) x = some Q ∧ w = w') (fun x => [(0, vs a0), (3, vi x)]) 0 S (.cons z (.cons z .nil)) ⟨h, z⟩ ?_
    rintro j S _ ⟨h, rfl⟩
    obtain ⟨Z, ab, rfl, h, t⟩ := rnd1 h
    unfold ref11_Name_lp1 at h
    try dsimp only at h
    refine (show WC _ _ _ _ [(0, vs a0), (3, vi j)] _ from ?_)
    refine sq (sq (rg (wY (ym z) z (wY (ym z) z (wY (Y.len_s ty9 z) z (wY (Y.lss_i z z) z (nl (th ?_))))))))
    rcases cnd h with ⟨D, h⟩ | ⟨D, h⟩
    ·refine WC.condT' z D (sk (th (sq (WC.block (sq (rg (wY (ym z) z (wY (ym z) z ?_))))))))
     obtain ⟨a, U, h⟩ := bnd h
     refine wY (Y.index_s ty9 z z U) z (wY (ya z) z (nl (th (sq (rg (wY (ym z) z (wY (Y.geq_b (b := 97) z z) z (wY (ym z) z ?_))))))))
     refine WL.cut 3 (σ := Unit) (fun _ w' => w = w') (fun _ => [(0, vs a0), (3, vi j), (4, vb a), (29, vB ((decide (97 ≤ a)) && (decide (a ≤ 122))))]) ?_ ?_
     ·refine WL.part 26 z (fun F => ?_) (fun F => ?_)
      ·refine ug z z (wY (ym z) z (ug z z (wY (Y.leq_b (b := 122) z z) z (wY (Y.pick (b := true) z z) z (WL.ren (v' := vB ((decide (97 ≤ a)) && (decide (a ≤ 122)))) 29 z (congrArg vB (andT F)) ?_)))))
       exact nl (At.join () z (.cons z (.cons z (.cons z (.cons z .nil)))))
      ·refine WL.gS z z z z (WL.gS z z z z (wY (Y.pick (b := false) z z) z (WL.ren (v' := vB ((decide (97 ≤ a)) && (decide (a ≤ 122)))) 29 z (congrArg vB (andF F)) ?_)))
       exact nl (At.join () z (.cons z (.cons z (.cons z (.cons z .nil)))))
     ·rintro _ _ rfl
      refine (show WL _ _ _ _ _ [(0, vs a0), (3, vi j), (4, vb a), (29, vB ((decide (97 ≤ a)) && (decide (a ≤ 122))))] _ from ?_)
      obtain ⟨c, p, h⟩ := lt1 h
      refine WL.yE (ya z) (congrArg vB p.symm) z (nl (th (sq (rg (wY (ym z) z (wY (Y.geq_b (b := 48) z z) z (wY (ym z) z ?_)))))))
      refine WL.cut 3 (σ := Unit) (fun _ w' => w = w') (fun _ => [(0, vs a0), (3, vi j), (4, vb a), (5, vB c), (35, vB ((decide (48 ≤ a)) && (decide (a ≤ 57))))]) ?_ ?_
      ·refine WL.part 32 z (fun G => ?_) (fun G => ?_)
       ·refine ug z z (wY (ym z) z (ug z z (wY (Y.leq_b (b := 57) z z) z (wY (Y.pick (b := true) z z) z (WL.ren (v' := vB ((decide (48 ≤ a)) && (decide (a ≤ 57)))) 35 z (congrArg vB (andT G)) ?_)))))
        exact nl (At.join () z (.cons z (.cons z (.cons z (.cons z (.cons z .nil))))))
       ·refine WL.gS z z z z (WL.gS z z z z (wY (Y.pick (b := false) z z) z (WL.ren (v' := vB ((decide (48 ≤ a)) && (decide (a ≤ 57)))) 35 z (congrArg vB (andF G)) ?_)))
        exact nl (At.join () z (.cons z (.cons z (.cons z (.cons z (.cons z .nil))))))
      ·rintro _ _ rfl
       refine (show WL _ _ _ _ _ [(0, vs a0), (3, vi j), (4, vb a), (5, vB c), (35, vB ((decide (48 ≤ a)) && (decide (a ≤ 57))))] _ from ?_)
       refine wY (ym z) z ?_
       refine WL.cut 3 (σ := Unit) (fun _ w' => w = w') (fun _ => [(0, vs a0), (3, vi j), (4, vb a), (5, vB c), (39, vB (((decide (48 ≤ a)) && (decide (a ≤ 57))) || (decide (a = 95))))]) ?_ ?_
       ·refine WL.part 36 z (fun H => ?_) (fun H => ?_)
        ·refine WL.gS z z z z (WL.gS z z z z (wY (Y.pick (b := true) z z) z (WL.ren (v' := vB (((decide (48 ≤ a)) && (decide (a ≤ 57))) || (decide (a = 95)))) 39 z (congrArg vB (orT H)) ?_)))
         exact nl (At.join () z (.cons z (.cons z (.cons z (.cons z (.cons z .nil))))))
        ·refine ug z z (wY (ym z) z (ug z z (wY (Y.eql_b (b := 95) z z) z (wY (Y.pick (b := false) z z) z (WL.ren (v' := vB (((decide (48 ≤ a)) && (decide (a ≤ 57))) || (decide (a = 95)))) 39 z (congrArg vB (orF H)) ?_)))))
         exact nl (At.join () z (.cons z (.cons z (.cons z (.cons z (.cons z .nil))))))
       ·rintro _ _ rfl
        refine (show WL _ _ _ _ _ [(0, vs a0), (3, vi j), (4, vb a), (5, vB c), (39, vB (((decide (48 ≤ a)) && (decide (a ≤ 57))) || (decide (a = 95))))] _ from ?_)
        refine wY (ym z) z ?_
        refine WL.cut 3 (σ := Unit) (fun _ w' => w = w') (fun _ => [(0, vs a0), (3, vi j), (5, vB c), (43, vB ((((decide (48 ≤ a)) && (decide (a ≤ 57))) || (decide (a = 95))) || (decide (a = 46))))]) ?_ ?_
        ·refine WL.part 40 z (fun I => ?_) (fun I => ?_)
         ·refine WL.gS z z z z (WL.gS z z z z (wY (Y.pick (b := true) z z) z (WL.ren (v' := vB ((((decide (48 ≤ a)) && (decide (a ≤ 57))) || (decide (a = 95))) || (decide (a = 46)))) 43 z (congrArg vB (orT I)) ?_)))
          exact nl (At.join () z (.cons z (.cons z (.cons z (.cons z .nil)))))
         ·refine ug z z (wY (ym z) z (ug z z (wY (Y.eql_b (b := 46) z z) z (wY (Y.pick (b := false) z z) z (WL.ren (v' := vB ((((decide (48 ≤ a)) && (decide (a ≤ 57))) || (decide (a = 95))) || (decide (a = 46)))) 43 z (congrArg vB (orF I)) ?_)))))
          exact nl (At.join () z (.cons z (.cons z (.cons z (.cons z .nil)))))
        ·rintro _ _ rfl
         refine (show WL _ _ _ _ _ [(0, vs a0), (3, vi j), (5, vB c), (43, vB ((((decide (48 ≤ a)) && (decide (a ≤ 57))) || (decide (a = 95))) || (decide (a = 46))))] _ from ?_)
         obtain ⟨m, J, h⟩ := lt1 h
         refine WL.yE (ya z) (congrArg vB J.symm) z (nl (th (sq (rg (wY (ym z) z (wY (Y.not z) z (wY (ym z) z ?_)))))))
         refine WL.cut 7 (σ := Unit) (fun _ w' => w = w') (fun _ => [(0, vs a0), (3, vi j), (53, vB ((!c) && ((decide (j = 0)) || (!m))))]) ?_ ?_
         ·refine WL.part 46 z (fun K => ?_) (fun K => ?_)
          ·refine ug z z (wY (ym z) z (ug z z (wY (Y.eql_i z z) z (ug z z (wY (ym z) z ?_)))))
           refine WL.cut 3 (σ := Unit) (fun _ w' => w = w') (fun _ => [(0, vs a0), (3, vi j), (46, vB true), (47, vi j), (48, vB (decide (j = 0))), (49, vB (decide (j = 0))), (52, vB ((decide (j = 0)) || (!m)))]) ?_ ?_
           ·refine WL.part 49 z (fun o => ?_) (fun o => ?_)
            ·refine WL.gS z z z z (WL.gS z z z z (ug z z (wY (Y.pick (b := true) z z) z (WL.ren (v' := vB ((decide (j = 0)) || (!m))) 52 z (congrArg vB (orT o)) (WL.ren 49 z (congrArg vB o.symm) ?_)))))
             exact nl (At.join () z (.cons z (.cons z (.cons z (.cons z (.cons z (.cons z (.cons z .nil))))))))
            ·refine ug z z (wY (ym z) z (ug z z (wY (Y.not z) z (ug z z (wY (Y.pick (b := false) z z) z (WL.ren (v' := vB ((decide (j = 0)) || (!m))) 52 z (congrArg vB (orF o)) (WL.ren 49 z (congrArg vB o.symm) ?_)))))))
             exact nl (At.join () z (.cons z (.cons z (.cons z (.cons z (.cons z (.cons z (.cons z .nil))))))))
           ·rintro _ _ rfl
            refine (show WL _ _ _ _ _ [(0, vs a0), (3, vi j), (46, vB true), (47, vi j), (48, vB (decide (j = 0))), (49, vB (decide (j = 0))), (52, vB ((decide (j = 0)) || (!m)))] _ from ?_)
            refine wY (Y.pick (b := true) z z) z (WL.ren (v' := vB ((!c) && ((decide (j = 0)) || (!m)))) 53 z (congrArg vB (andT K)) ?_)
            exact nl (At.join () z (.cons z (.cons z (.cons z .nil))))
          ·refine WL.gS z z z z (WL.gS z z z z (WL.gS z z z z (WL.gS z z z z (WL.gS z z z z (WL.gS z z z z (wY (Y.pick (b := false) z z) z (WL.ren (v' := vB ((!c) && ((decide (j = 0)) || (!m)))) 53 z (congrArg vB (andF K)) ?_)))))))
           exact nl (At.join () z (.cons z (.cons z (.cons z .nil))))
         ·rintro _ _ rfl
          refine (show WL _ _ _ _ _ [(0, vs a0), (3, vi j), (53, vB ((!c) && ((decide (j = 0)) || (!m))))] _ from ?_)
          refine nl (th ?_)
          rcases cnd h with ⟨M, h⟩ | ⟨M, h⟩
          ·refine WC.condT' z M (sq (rg (wY (ya z) z (nl (th (rt (At.inBlockR (At.thenR (At.loopR ?_)))))))))
           have h := outr1 h t P
           refine At.joinBR (At.inBlockR (At.thenR ?_))
           obtain rfl := some1 h
           have V : Stp [] (Lg.O0 (fun _ => False)) w (Lg.O0 (fun _ => False)) w := (sr_ _ _ _)
           exact At.res (.inl z) z (.tmp z .nil) ⟨z, (se_ V z z)⟩
          ·refine WC.condF' z M (sk (At.inBlock (th (rg (wY (ym z) z (wY (Y.add_i z z) z ?_))))))
           obtain ⟨aa, W, h⟩ := lt1 h
           refine WL.yE (ya z) (congrArg vi W.symm) z (nl ?_)
           exact At.round aa Z (Nat.lt_succ_self _) ⟨next1 h t, z⟩ (.cons z (.cons z .nil))
    ·refine WC.condF' z D (WC.exit (At.thenX (At.loopX ?_)))
     exact At.hitB (σ := Unit) () ⟨brk1 h t, z⟩ .nil
   ·rintro _ _ ⟨rfl, rfl⟩
    replace h := flowK_go P
    refine (show At _ _ _ [] _ from ?_)
    refine At.inBlockHit (th (sq (rg (wY (ya z) z (nl (th (rt ?_)))))))
    obtain rfl := some1 h
    have X : Stp [] (Lg.O0 (fun _ => False)) w (Lg.O0 (fun _ => False)) w := (sr_ _ _ _)
    exact At.res (.inl z) z (.tmp z .nil) ⟨z, (se_ X z z)⟩
theorem c_ref11_Value {a0 : List UInt8} {w : World} {r0 : Bool} (h : ref11_Value a0 = some r0) : Rets Tryd.prog 25 [vs a0] w (fun v w' => v = vB r0 ∧ Ext w w') := by
 unfold ref11_Value at h
 refine Rets.enter Tryd.func25 z z ?_
 refine (show WC _ _ _ _ [(0, vs a0)] _ from ?_)
 refine sq (rg (wY (ya z) z (nl (th (sq (sq (rg (wY (ym z) z (wY (Y.len_s ty9 z) z ?_)))))))))
 refine wY (Y.lss_i z z) z (wY (ym z) z ?_)
 refine WL.cut 4 (σ := Unit) (fun _ w' => w = w') (fun _ => [(0, vs a0), (12, vB ((decide ((a0.length : Int) < 1)) || (decide (32 < (a0.length : Int)))))]) ?_ ?_
 ·refine WL.part 8 z (fun j => ?_) (fun j => ?_)
  ·refine WL.gS z z z z (WL.gS z z z z (WL.gS z z z z (wY (Y.pick (b := true) z z) z (WL.ren (v' := vB ((decide ((a0.length : Int) < 1)) || (decide (32 < (a0.length : Int))))) 12 z (congrArg vB (orT j)) ?_))))
   exact nl (At.join () z (.cons z (.cons z .nil)))
  ·refine ug z z (wY (ym z) z (ug z z (wY (Y.len_s ty9 z) z (ug z z (wY (Y.gtr_i z z) z (wY (Y.pick (b := false) z z) z (WL.ren (v' := vB ((decide ((a0.length : Int) < 1)) || (decide (32 < (a0.length : Int))))) 12 z (congrArg vB (orF j)) ?_)))))))
   exact nl (At.join () z (.cons z (.cons z .nil)))
 ·rintro _ _ rfl
  refine (show WL _ _ _ _ _ [(0, vs a0), (12, vB ((decide ((a0.length : Int) < 1)) || (decide (32 < (a0.length : Int)))))] _ from ?_)
  refine nl (th ?_)
  rcases cnd h with ⟨m, h⟩ | ⟨m, h⟩
  ·refine WC.condT' z m (sq (rg (wY (ya z) z (nl (th (rt (At.thenR ?_)))))))
   obtain rfl := some1 h
   have J : Stp [] (Lg.O0 (fun _ => False)) w (Lg.O0 (fun _ => False)) w := (sr_ _ _ _)
   exact At.res (.inl z) z (.tmp z .nil) ⟨z, (se_ J z z)⟩
  ·refine WC.condF' z m (sk (th (sq (sq (rg (wY (ya z) z (nl (th (WC.block ?_)))))))))
   obtain ⟨H, h, G⟩ := flow1 h
   obtain ⟨I, h⟩ := loop_some h
   refine WC.joinB 0 (σ := Unit) (fun x w' => H = .go () ∧ w = w') (fun x => []) ?_ ?_
   ·refine WC.loop (σ := Int) (fun x k w' => loopN k (ref11_Value_lp1 a0) x = some H ∧ w = w') (fun x => [(0, vs a0), (3, vi x)]) 0 I (.cons z (.cons z .nil)) ⟨h, z⟩ ?_
    rintro c I _ ⟨h, rfl⟩
    obtain ⟨S, U, rfl, h, o⟩ := rnd1 h
    unfold ref11_Value_lp1 at h
    try dsimp only at h
    refine (show WC _ _ _ _ [(0, vs a0), (3, vi c)] _ from ?_)
    refine sq (sq (rg (wY (ym z) z (wY (ym z) z (wY (Y.len_s ty9 z) z (wY (Y.lss_i z z) z (nl (th ?_))))))))
    rcases cnd h with ⟨p, h⟩ | ⟨p, h⟩
    ·refine WC.condT' z p (sk (th (sq (WC.block (sq (rg (wY (ym z) z (wY (ym z) z ?_))))))))
     obtain ⟨a, K, h⟩ := bnd h
     refine wY (Y.index_s ty9 z z K) z (wY (ya z) z (nl (th (sq (rg (wY (ym z) z (wY (Y.leq_b (b := 32) z z) z (wY (ym z) z ?_))))))))
     refine WL.cut 3 (σ := Unit) (fun _ w' => w = w') (fun _ => [(0, vs a0), (3, vi c), (4, vb a), (27, vB ((decide (a ≤ 32)) || (decide (127 ≤ a))))]) ?_ ?_
     ·refine WL.part 24 z (fun q => ?_) (fun q => ?_)
      ·refine WL.gS z z z z (WL.gS z z z z (wY (Y.pick (b := true) z z) z (WL.ren (v' := vB ((decide (a ≤ 32)) || (decide (127 ≤ a)))) 27 z (congrArg vB (orT q)) ?_)))
       exact nl (At.join () z (.cons z (.cons z (.cons z (.cons z .nil)))))
      ·refine ug z z (wY (ym z) z (ug z z (wY (Y.geq_b (b := 127) z z) z (wY (Y.pick (b := false) z z) z (WL.ren (v' := vB ((decide (a ≤ 32)) || (decide (127 ≤ a)))) 27 z (congrArg vB (orF q)) ?_)))))
       exact nl (At.join () z (.cons z (.cons z (.cons z (.cons z .nil)))))
     ·rintro _ _ rfl
      refine (show WL _ _ _ _ _ [(0, vs a0), (3, vi c), (4, vb a), (27, vB ((decide (a ≤ 32)) || (decide (127 ≤ a))))] _ from ?_)
      refine wY (ym z) z ?_
      refine WL.cut 3 (σ := Unit) (fun _ w' => w = w') (fun _ => [(0, vs a0), (3, vi c), (4, vb a), (31, vB (((decide (a ≤ 32)) || (decide (127 ≤ a))) || (decide (a = 61))))]) ?_ ?_
      ·refine WL.part 28 z (fun r => ?_) (fun r => ?_)
       ·refine WL.gS z z z z (WL.gS z z z z (wY (Y.pick (b := true) z z) z (WL.ren (v' := vB (((decide (a ≤ 32)) || (decide (127 ≤ a))) || (decide (a = 61)))) 31 z (congrArg vB (orT r)) ?_)))
        exact nl (At.join () z (.cons z (.cons z (.cons z (.cons z .nil)))))
       ·refine ug z z (wY (ym z) z (ug z z (wY (Y.eql_b (b := 61) z z) z (wY (Y.pick (b := false) z z) z (WL.ren (v' := vB (((decide (a ≤ 32)) || (decide (127 ≤ a))) || (decide (a = 61)))) 31 z (congrArg vB (orF r)) ?_)))))
        exact nl (At.join () z (.cons z (.cons z (.cons z (.cons z .nil)))))
      ·rintro _ _ rfl
       refine (show WL _ _ _ _ _ [(0, vs a0), (3, vi c), (4, vb a), (31, vB (((decide (a ≤ 32)) || (decide (127 ≤ a))) || (decide (a = 61))))] _ from ?_)
       refine wY (ym z) z ?_
       refine WL.cut 3 (σ := Unit) (fun _ w' => w = w') (fun _ => [(0, vs a0), (3, vi c), (4, vb a), (35, vB ((((decide (a ≤ 32)) || (decide (127 ≤ a))) || (decide (a = 61))) || (decide (a = 59))))]) ?_ ?_
       ·refine WL.part 32 z (fun t => ?_) (fun t => ?_)
        ·refine WL.gS z z z z (WL.gS z z z z (wY (Y.pick (b := true) z z) z (WL.ren (v' := vB ((((decide (a ≤ 32)) || (decide (127 ≤ a))) || (decide (a = 61))) || (decide (a = 59)))) 35 z (congrArg vB (orT t)) ?_)))
         exact nl (At.join () z (.cons z (.cons z (.cons z (.cons z .nil)))))
        ·refine ug z z (wY (ym z) z (ug z z (wY (Y.eql_b (b := 59) z z) z (wY (Y.pick (b := false) z z) z (WL.ren (v' := vB ((((decide (a ≤ 32)) || (decide (127 ≤ a))) || (decide (a = 61))) || (decide (a = 59)))) 35 z (congrArg vB (orF t)) ?_)))))
         exact nl (At.join () z (.cons z (.cons z (.cons z (.cons z .nil)))))
       ·rintro _ _ rfl
        refine (show WL _ _ _ _ _ [(0, vs a0), (3, vi c), (4, vb a), (35, vB ((((decide (a ≤ 32)) || (decide (127 ≤ a))) || (decide (a = 61))) || (decide (a = 59))))] _ from ?_)
        refine wY (ym z) z ?_
        refine WL.cut 3 (σ := Unit) (fun _ w' => w = w') (fun _ => [(0, vs a0), (3, vi c), (39, vB (((((decide (a ≤ 32)) || (decide (127 ≤ a))) || (decide (a = 61))) || (decide (a = 59))) || (decide (a = 44))))]) ?_ ?_
        ·refine WL.part 36 z (fun D => ?_) (fun D => ?_)
         ·refine WL.gS z z z z (WL.gS z z z z (wY (Y.pick (b := true) z z) z (WL.ren (v' := vB (((((decide (a ≤ 32)) || (decide (127 ≤ a))) || (decide (a = 61))) || (decide (a = 59))) || (decide (a = 44)))) 39 z (congrArg vB (orT D)) ?_)))
          exact nl (At.join () z (.cons z (.cons z (.cons z .nil))))
         ·refine ug z z (wY (ym z) z (ug z z (wY (Y.eql_b (b := 44) z z) z (wY (Y.pick (b := false) z z) z (WL.ren (v' := vB (((((decide (a ≤ 32)) || (decide (127 ≤ a))) || (decide (a = 61))) || (decide (a = 59))) || (decide (a = 44)))) 39 z (congrArg vB (orF D)) ?_)))))
          exact nl (At.join () z (.cons z (.cons z (.cons z .nil))))
        ·rintro _ _ rfl
         refine (show WL _ _ _ _ _ [(0, vs a0), (3, vi c), (39, vB (((((decide (a ≤ 32)) || (decide (127 ≤ a))) || (decide (a = 61))) || (decide (a = 59))) || (decide (a = 44))))] _ from ?_)
         refine nl (th ?_)
         rcases cnd h with ⟨F, h⟩ | ⟨F, h⟩
         ·refine WC.condT' z F (sq (rg (wY (ya z) z (nl (th (rt (At.inBlockR (At.thenR (At.loopR ?_)))))))))
          have h := outr1 h o G
          refine At.joinBR (At.inBlockR (At.thenR ?_))
          obtain rfl := some1 h
          have M : Stp [] (Lg.O0 (fun _ => False)) w (Lg.O0 (fun _ => False)) w := (sr_ _ _ _)
          exact At.res (.inl z) z (.tmp z .nil) ⟨z, (se_ M z z)⟩
         ·refine WC.condF' z F (sk (At.inBlock (th (rg (wY (ym z) z (wY (Y.add_i z z) z ?_))))))
          obtain ⟨T, P, h⟩ := lt1 h
          refine WL.yE (ya z) (congrArg vi P.symm) z (nl ?_)
          exact At.round T S (Nat.lt_succ_self _) ⟨next1 h o, z⟩ (.cons z (.cons z .nil))
    ·refine WC.condF' z p (WC.exit (At.thenX (At.loopX ?_)))
     exact At.hitB (σ := Unit) () ⟨brk1 h o, z⟩ .nil
   ·rintro _ _ ⟨rfl, rfl⟩
    replace h := flowK_go G
    refine (show At _ _ _ [] _ from ?_)
    refine At.inBlockHit (th (sq (rg (wY (ya z) z (nl (th (rt ?_)))))))
    obtain rfl := some1 h
    have Q : Stp [] (Lg.O0 (fun _ => False)) w (Lg.O0 (fun _ => False)) w := (sr_ _ _ _)
    exact At.res (.inl z) z (.tmp z .nil) ⟨z, (se_ Q z z)⟩
end Go.Lg
