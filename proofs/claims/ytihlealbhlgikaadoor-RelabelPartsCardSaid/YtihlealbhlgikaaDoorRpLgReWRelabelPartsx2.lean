/- The walks of RelabelParts and of what it calls, printed by gen.py. -/
import Derived.Test.YtihlealbhlgikaaDoorRpLgReWRelabelPartsx1
set_option linter.unusedVariables false
namespace Go.Lg
open Go Go.Proofs
set_option maxRecDepth 100000
set_option maxHeartbeats 4000000
theorem c_label_Sorted {A : Nat → Prop} {a0 : List api_Pair} {v0 : Value} {w : World} (hs0 : Sl rep_api_Pair w A v0 a0) {r0 : List api_Pair} (h : label_Sorted a0 = some r0) : Rets Tryd.prog 33 [v0] w (fun v w' => ∃ (u0 : Value), v = u0 ∧ Ext w w' ∧ RowF rep_api_Pair 59 w w' u0 r0) := by
 unfold label_Sorted at h
 refine Rets.enter Tryd.func33 z z ?_
 have fy : Sl rep_api_Pair w (imm (Lg.O0 A)) v0 a0 := (Sl.start hs0)
 refine (show WC _ _ _ _ [(0, v0)] _ from ?_)
 refine sq (rg (wY (ya z) z (nl (th (sq (rg (wY (ym z) z ?_)))))))
 obtain ⟨j, fz, h⟩ := bnd h
 refine WL.call (vals := [v0]) kok43 z z (c_slices_Clone_api_Pair_api_Pair (A := fun _ => True) (Sl.all fy) fz) ?_
 rintro c aa ⟨_, rfl, fA, gX⟩
 obtain ⟨ap, gY, cc, dy⟩ := adoptE (Lg.O0 A) (fun k => if ob c = some k then 11 else 1) fA
 have cd : OwnSl 11 rep_api_Pair 59 ap aa c j := RowF.adopt 11 flat_api_Pair gX cc (fun k hk => if_pos hk)
 refine wY (ya z) z (nl (th (sq (rg (wY (ym z) z ?_)))))
 obtain ⟨gZ, h, fB⟩ := bnd h
 refine WL.callJ (vals := [c, Value.func (.func 59) (List.toArray []) (List.toArray [])]) (σ := (List api_Pair × Own)) (fun x w' => x.1 = gZ ∧ Stp [11, 1001, 1002, 1003, 1004, 1005, 1006, 1007, 1008, 1009, 1010, 1011, 1012, 1013, 1014, 1015, 1016] ap aa x.2 w' ∧ OwnSl 1018 rep_api_Pair 59 x.2 w' c x.1) (fun x => tp []) kok58 z z ?_ ?_
 ·refine Rets.enter Tryd.func58 z z ?_
  refine (show WC _ _ _ _ [(0, c), (1, Value.func (.func 59) (List.toArray []) (List.toArray []))] _ from ?_)
  refine rg (wY (ym z) z (wY (ym z) z (wY (Y.len ty33 z cd.src.sl) z (wY (ym z) z ?_))))
  obtain ⟨g0, h, fC⟩ := bnd h
  refine WL.callJ (vals := [c, vi (j.length : Int), Value.func (.func 59) (List.toArray []) (List.toArray [])]) (σ := (List api_Pair × Own)) (fun x w' => x.1 = g0 ∧ Stp [11, 1001, 1002, 1003, 1004, 1005, 1006, 1007, 1008, 1009, 1010, 1011, 1012, 1013, 1014, 1015] ap aa x.2 w' ∧ OwnSl 1016 rep_api_Pair 59 x.2 w' c x.1) (fun x => tp []) kok87 z z ?_ ?_
  ·refine Rets.enter Tryd.func87 z z ?_
   refine (show WC _ _ _ _ [(0, c), (1, vi (j.length : Int)), (2, Value.func (.func 59) (List.toArray []) (List.toArray []))] _ from ?_)
   refine sq (rg (wY (ya z) z (nl (th (sq (rg (wY (ym z) z (wY (ya z) z (wY (ya z) z ?_)))))))))
   refine nl (th (sq ?_))
   obtain ⟨g1, h, fD⟩ := bnd h
   refine WC.join (σ := (List api_Pair × Int × Own)) (fun x w' => (x.1, x.2.1) = g1 ∧ Stp [11, 1001, 1002, 1003, 1004, 1005, 1006, 1007, 1008] ap aa x.2.2 w' ∧ OwnSl 1009 rep_api_Pair 59 x.2.2 w' c x.1) (fun x => [(0, c), (1, vi (j.length : Int)), (2, Value.func (.func 59) (List.toArray []) (List.toArray [])), (6, vi 20), (7, vi x.2.1)]) ?_ ?_
   ·refine WC.block ?_
    obtain ⟨fs, h, fF⟩ := flow1 h
    obtain ⟨ft, h⟩ := loop_some h
    refine WC.joinB 0 (σ := (List api_Pair × Int × Own)) (fun x w' => fs = .go (x.1, x.2.1) ∧ Stp [11, 1001, 1002, 1003, 1004, 1005, 1006, 1007] ap aa x.2.2 w' ∧ OwnSl 1008 rep_api_Pair 59 x.2.2 w' c x.1) (fun x => [(0, c), (1, vi (j.length : Int)), (2, Value.func (.func 59) (List.toArray []) (List.toArray [])), (6, vi 20), (7, vi x.2.1)]) ?_ ?_
    ·obtain ⟨g2, dz, fG⟩ := OwnSl.rlb 1007 rfl cd
     refine WC.loop (σ := (List api_Pair × Int × Int × Own)) (fun x k w' => loopN k (label_Sorted_lp1 j) (x.1, x.2.1, x.2.2.1) = some fs ∧ Stp [11, 1001, 1002, 1003, 1004, 1005, 1006, 1007] ap aa x.2.2.2 w' ∧ OwnSl 1007 rep_api_Pair 59 x.2.2.2 w' c x.1) (fun x => [(0, c), (1, vi (j.length : Int)), (2, Value.func (.func 59) (List.toArray []) (List.toArray [])), (6, vi 20), (7, vi x.2.1), (8, vi x.2.2.1)]) (j, 0, 20, g2) ft (.cons z (.cons z (.cons z (.cons z (.cons z (.cons z .nil)))))) ⟨h, (su_ dz z), fG⟩ ?_
     rintro ⟨aZ, n, o, ce⟩ ft bl ⟨h, ar, bm⟩
     obtain ⟨g3, iT, rfl, h, cf⟩ := rnd1 h
     unfold label_Sorted_lp1 at h
     try dsimp only at h ar bm
     refine (show WC _ _ _ _ [(0, c), (1, vi (j.length : Int)), (2, Value.func (.func 59) (List.toArray []) (List.toArray [])), (6, vi 20), (7, vi n), (8, vi o)] _ from ?_)
     refine sq (sq (rg (wY (ym z) z (wY (ym z) z (wY (Y.leq_i z z) z (nl (th ?_)))))))
     rcases cnd h with ⟨bn, h⟩ | ⟨bn, h⟩
     ·refine WC.condT' z bn (sk (th (WC.block (sq (rg (wY (ym z) z (wY (ym z) z (wY (ym z) z (wY (ym z) z ?_)))))))))
      obtain ⟨g4, h, fH⟩ := bnd h
      refine WL.callJ (vals := [c, vi n, vi o, Value.func (.func 59) (List.toArray []) (List.toArray [])]) (σ := (List api_Pair × Own)) (fun x w' => x.1 = g4 ∧ Stp [1001, 1002, 1003, 1004, 1005, 1007] ce bl x.2 w' ∧ OwnSl 1006 rep_api_Pair 59 x.2 w' c x.1) (fun x => tp []) kok100 z z ?_ ?_
      ·refine Rets.enter Tryd.func100 z z ?_
       refine (show WC _ _ _ _ [(0, c), (1, vi n), (2, vi o), (3, Value.func (.func 59) (List.toArray []) (List.toArray []))] _ from ?_)
       refine sq (rg (wY (ym z) z (wY (Y.add_i z z) z ?_)))
       obtain ⟨g5, fI, h⟩ := lt1 h
       refine WL.yE (ya z) (congrArg vi fI.symm) z (nl (th (WC.block ?_)))
       obtain ⟨fu, h, fJ⟩ := flow1 h
       obtain ⟨fw, h⟩ := loop_some h
       refine WC.joinB 0 (σ := (List api_Pair × Own)) (fun x w' => fu = .go x.1 ∧ Stp [1001, 1002, 1003, 1004, 1007] ce bl x.2 w' ∧ OwnSl 1005 rep_api_Pair 59 x.2 w' c x.1) (fun x => []) ?_ ?_
       ·obtain ⟨g6, cg, dA⟩ := OwnSl.rlb 1004 rfl bm
        refine WC.loop (σ := (List api_Pair × Int × Own)) (fun x k w' => loopN k (label_Sorted_lp2 n o) (x.1, x.2.1) = some fu ∧ Stp [1001, 1002, 1003, 1004, 1007] ce bl x.2.2 w' ∧ OwnSl 1004 rep_api_Pair 59 x.2.2 w' c x.1) (fun x => [(0, c), (1, vi n), (2, vi o), (3, Value.func (.func 59) (List.toArray []) (List.toArray [])), (8, vi x.2.1)]) (aZ, g5, g6) fw (.cons z (.cons z (.cons z (.cons z (.cons z .nil))))) ⟨h, (su_ cg z), dA⟩ ?_
        rintro ⟨a1, Q, ch⟩ fw bo ⟨h, au, bp⟩
        obtain ⟨fK, ic, rfl, h, bw⟩ := rnd1 h
        unfold label_Sorted_lp2 at h
        try dsimp only at h au bp
        refine (show WC _ _ _ _ [(0, c), (1, vi n), (2, vi o), (3, Value.func (.func 59) (List.toArray []) (List.toArray [])), (8, vi Q)] _ from ?_)
        refine sq (sq (rg (wY (ym z) z (wY (ym z) z (wY (Y.lss_i z z) z (nl (th ?_)))))))
        rcases cnd h with ⟨av, h⟩ | ⟨av, h⟩
        ·refine WC.condT' z av (sk (th (sq (WC.block (sq (rg (wY (ym z) z (wY (ya z) z (nl ?_)))))))))
         refine th ?_
         obtain ⟨fL, h, dB⟩ := bnd h
         refine WC.join (σ := (List api_Pair × Own)) (fun x w' => x.1 = fL ∧ Stp [1001, 1002, 1004] ch bo x.2 w' ∧ OwnSl 1003 rep_api_Pair 59 x.2 w' c x.1) (fun x => [(0, c), (1, vi n), (2, vi o), (3, Value.func (.func 59) (List.toArray []) (List.toArray [])), (8, vi Q)]) ?_ ?_
         ·refine WC.block ?_
          obtain ⟨ci, h, dC⟩ := flow1 h
          obtain ⟨cj, h⟩ := loop_some h
          refine WC.joinB 2 (σ := (List api_Pair × Own)) (fun x w' => ci = .go x.1 ∧ Stp [1001, 1004] ch bo x.2 w' ∧ OwnSl 1002 rep_api_Pair 59 x.2 w' c x.1) (fun x => [(0, c), (1, vi n), (2, vi o), (3, Value.func (.func 59) (List.toArray []) (List.toArray [])), (8, vi Q)]) ?_ ?_
          ·obtain ⟨fN, ck, dD⟩ := OwnSl.rlb 1001 rfl bp
           refine WC.loop (σ := (List api_Pair × Int × Own)) (fun x k w' => loopN k (label_Sorted_lp3 n) (x.1, x.2.1) = some ci ∧ Stp [1001, 1004] ch bo x.2.2 w' ∧ OwnSl 1001 rep_api_Pair 59 x.2.2 w' c x.1) (fun x => [(0, c), (1, vi n), (2, vi o), (3, Value.func (.func 59) (List.toArray []) (List.toArray [])), (8, vi Q), (9, vi x.2.1)]) (a1, Q, fN) cj (.cons z (.cons z (.cons z (.cons z (.cons z (.cons z .nil)))))) ⟨h, (su_ ck z), dD⟩ ?_
           rintro ⟨b5, r, ah⟩ cj hv ⟨h, ai, ac⟩
           obtain ⟨fO, ie, rfl, h, bx⟩ := rnd1 h
           unfold label_Sorted_lp3 at h
           try dsimp only at h ai ac
           refine (show WC _ _ _ _ [(0, c), (1, vi n), (2, vi o), (3, Value.func (.func 59) (List.toArray []) (List.toArray [])), (8, vi Q), (9, vi r)] _ from ?_)
           refine sq (sq (WC.drawH [] [0, 1, 2, 3, 4, 5, 6, 7, 8, 9, 10, 11, 12, 13, 14, 15, 16] ah 17 fmix z (by kernel_rfl) ?_))
           intro bz S
           refine WD.y 0 z (by kernel_rfl) (fun _ _ _ => ym z) z (WD.y 1 z (by kernel_rfl) (fun _ _ _ => ym z) z (WD.y 2 z (by kernel_rfl) (fun _ _ _ => Y.gtr_i z z) z (WD.y 3 z (by kernel_rfl) (fun _ _ _ => ym z) z ?_)))
           obtain ⟨fP, h, dE⟩ := bnd h
           refine WD.join (σ := (Bool × Own)) (f' := 0) [16, 15, 14, 13, 12, 11, 10, 9, 8, 7, 6, 5, 4, 3, 2, 1, 0] (fun x O' w' => x.1 = fP ∧ Stp [] ah bz x.2 w' ∧ x.2 = O') (fun x => [(0, c), (1, vi n), (2, vi o), (3, Value.func (.func 59) (List.toArray []) (List.toArray [])), (8, vi Q), (9, vi r), (34, vB x.1)]) (fun bA => ?_) ?_
           ·rcases cnd h with ⟨X, h⟩ | ⟨X, h⟩
            ·refine WD.ren 21 z (congrArg vB X) (WD.gT 4 z (by kernel_rfl) z z (fun _ _ _ => ym z) z (WD.gT 5 z (by kernel_rfl) z z (fun _ _ _ => ym z) z (WD.gT 6 z (by kernel_rfl) z z (fun _ _ _ => ym z) z ?_)))
             obtain ⟨t, dF, h⟩ := bnd h
             have ad := ac.st S z z z
             obtain ⟨ig, g7, hw, bB, dG, dH, ax, cl⟩ := OwnSl.at ad dF
             obtain ⟨_, _, rfl, rfl, rfl⟩ := cl
             replace ax : CellsAt _ _ _ [vs t.Key, vs t.Val] := ax
             have cm := CAt.own ad bB ax
             refine WD.gT 7 z (by kernel_rfl) z z (fun _ _ _ => Y.indexAddr ty33 ty59 z bB z dG dH) z (WD.gT 8 z (by kernel_rfl) z z (fun hx ih cn => have dI := cm.st cn z; yL ty59 z z dI.at_ z) z (WD.gT 9 z (by kernel_rfl) z z (fun _ _ _ => ym z) z (WD.gT 10 z (by kernel_rfl) z z (fun _ _ _ => ym z) z (WD.gT 11 z (by kernel_rfl) z z (fun _ _ _ => Y.sub_i z z) z ?_))))
             obtain ⟨C, dJ, h⟩ := bnd h
             obtain ⟨ii, g8, hy, bC, dK, dL, ay, co⟩ := OwnSl.at ad dJ
             obtain ⟨_, _, rfl, rfl, rfl⟩ := co
             replace ay : CellsAt _ _ _ [vs C.Key, vs C.Val] := ay
             have cq := CAt.own ad bC ay
             refine WD.gT 12 z (by kernel_rfl) z z (fun _ _ _ => Y.indexAddr ty33 ty59 z bC z dK dL) z (WD.gT 13 z (by kernel_rfl) z z (fun hz ij cr => have dM := cq.st cr z; yL ty59 z z dM.at_ z) z (WD.heavy 14 z (by kernel_rfl) (ug z z ?_)))
             obtain ⟨fQ, h, dN⟩ := bnd h
             refine WL.callV (fv := []) (cv := []) (vals := [ag [vs t.Key, vs t.Val], ag [vs C.Key, vs C.Val]]) (σ := (Int × Own)) (fun x w' => x.1 = fQ ∧ Stp [] ah bz x.2 w') (fun x => vi x.1) kok59 z z z ?_ ?_
             ·refine Rets.enter Tryd.func59 z z ?_
              refine (show WC _ _ _ _ [(0, ag [vs t.Key, vs t.Val]), (1, ag [vs C.Key, vs C.Val])] _ from ?_)
              refine sq (rg (WL.box (O := ah) 12 [vs t.Key, vs t.Val] z z z ?_))
              intro ik fR hA cs dO
              refine WL.box (O := fR) 13 [vs C.Key, vs C.Val] z z z ?_
              intro il fT hC a2 dP
              refine wY (ya z) z (nl (th (sq (rg (wY (yf fo59_0 z) z ?_)))))
              have dQ := dO.st a2 z
              refine wY (yl ty9 z z (dQ.cell 0 _ z)) z (wY (yf fo59_0 z) z (wY (yl ty9 z z (dP.cell 0 _ z)) z ?_))
              obtain ⟨fU, dR, h⟩ := bnd h
              refine WL.call (vals := [vs t.Key, vs C.Key]) kok60 z z (c_cmp_Compare_string dR) ?_
              rintro hD hE ⟨rfl, dS⟩
              obtain ⟨fV, gQ, gR, ct⟩ := adoptE fT (fun k => 1) dS
              refine wY (ya z) z (nl (th (rt ?_)))
              exact At.res (.inl z) z (.tmp z .nil) ⟨(fU, fV), ⟨some1 h, (tr_ (su_ cs z) (tr_ (su_ a2 z) (su_ ct z)))⟩, z⟩
             ·rintro ⟨cu, fY⟩ hF ⟨rfl, aj⟩
              replace h := dN
              try dsimp only at h aj
              refine (show WL _ _ _ _ _ ((32, vi cu) :: _) _ from ?_)
              refine nl (At.dq (su_ aj z) (WD.gT 15 z (by kernel_rfl) z z (fun _ _ _ => Y.lss_i z z) z (WD.y 16 z (by kernel_rfl) (fun _ _ _ => Y.pick (b := true) z z) z (WD.ren 21 z (congrArg vB X.symm) ?_))))
              exact bA (decide (cu < 0), fY) _ _ _ ⟨some1 h, (su_ aj z), z⟩ (.cons z (.cons z (.cons z (.cons z (.cons z (.cons z (.cons z .nil)))))))
            ·refine WD.ren 21 z (congrArg vB X) (WD.gS 4 z (by kernel_rfl) z z z z (WD.gS 5 z (by kernel_rfl) z z z z (WD.gS 6 z (by kernel_rfl) z z z z (WD.gS 7 z (by kernel_rfl) z z z z (WD.gS 8 z (by kernel_rfl) z z z z (WD.gS 9 z (by kernel_rfl) z z z z (WD.gS 10 z (by kernel_rfl) z z z z (WD.gS 11 z (by kernel_rfl) z z z z (WD.gS 12 z (by kernel_rfl) z z z z ?_)))))))))
             refine WD.gS 13 z (by kernel_rfl) z z z z (WD.heavy 14 z (by kernel_rfl) (WL.gS z z z z (nl (At.dq (sr_ _ _ _) (WD.gS 15 z (by kernel_rfl) z z z z (WD.y 16 z (by kernel_rfl) (fun _ _ _ => Y.pick (b := false) z z) z (WD.ren 21 z (congrArg vB X.symm) ?_)))))))
             exact bA (false, ah) _ _ _ ⟨some1 h, (sr_ _ _ _), z⟩ (.cons z (.cons z (.cons z (.cons z (.cons z (.cons z (.cons z .nil)))))))
           ·rintro ⟨f0, bq⟩ _ hG ⟨rfl, T, rfl⟩
            replace h := dE
            try dsimp only at h T
            refine (show WD _ _ _ _ _ _ _ _ [(0, c), (1, vi n), (2, vi o), (3, Value.func (.func 59) (List.toArray []) (List.toArray [])), (8, vi Q), (9, vi r), (34, vB f0)] _ _ from ?_)
            refine WD.done_ (by kernel_rfl) (th ?_)
            rcases cnd h with ⟨az, h⟩ | ⟨az, h⟩
            ·refine WC.condT' z az (sk (th (sq (WC.block (WC.drawH [1001] [0, 1, 2, 3, 4, 5, 6, 7, 8, 9, 10, 11, 12, 13, 14, 15, 16] bq 18 fmix z (by kernel_rfl) ?_)))))
             intro dT a3
             refine WD.y 0 z (by kernel_rfl) (fun _ _ _ => ym z) z (WD.y 1 z (by kernel_rfl) (fun _ _ _ => ym z) z (WD.y 2 z (by kernel_rfl) (fun _ _ _ => ym z) z (WD.y 3 z (by kernel_rfl) (fun _ _ _ => ym z) z (WD.y 4 z (by kernel_rfl) (fun _ _ _ => Y.sub_i z z) z (WD.y 5 z (by kernel_rfl) (fun _ _ _ => ym z) z (WD.y 6 z (by kernel_rfl) (fun _ _ _ => ym z) z (WD.y 7 z (by kernel_rfl) (fun _ _ _ => Y.sub_i z z) z ?_)))))))
             obtain ⟨D, dU, h⟩ := bnd h
             have E := ((ac.st S z z z).st T z z z).st a3 z z z
             obtain ⟨im, g9, hH, bD, dX, dY, aA, cw⟩ := OwnSl.at E dU
             obtain ⟨_, _, rfl, rfl, rfl⟩ := cw
             replace aA : CellsAt _ _ _ [vs D.Key, vs D.Val] := aA
             have a4 := CAt.own E bD aA
             refine WD.y 8 z (by kernel_rfl) (fun _ _ _ => Y.indexAddr ty33 ty59 z bD z dX dY) z (WD.y 10 z (by kernel_rfl) (fun _ _ _ => ym z) z (WD.y 11 z (by kernel_rfl) (fun _ _ _ => ym z) z ?_))
             obtain ⟨F, dZ, h⟩ := bnd h
             obtain ⟨io, ha, hI, bE, d0, d1, aC, cx⟩ := OwnSl.at E dZ
             obtain ⟨_, _, rfl, rfl, rfl⟩ := cx
             replace aC : CellsAt _ _ _ [vs F.Key, vs F.Val] := aC
             have a5 := CAt.own E bE aC
             refine WD.y 12 z (by kernel_rfl) (fun _ _ _ => Y.indexAddr ty33 ty59 z bE z d0 d1) z ?_
             obtain ⟨f1, h, d2⟩ := bnd h
             refine WD.join (σ := Unit) (f' := 4) [13, 12, 11, 10, 9, 8, 7, 6, 5, 4, 3, 2, 1, 0] (fun x O' w' => () = f1 ∧ dT = w' ∧ bq = O') (fun x => [(0, c), (1, vi n), (2, vi o), (3, Value.func (.func 59) (List.toArray []) (List.toArray [])), (8, vi Q), (9, vi r), (37, c), (38, vi r), (39, c), (41, vi (w64 (r - 1))), (46, ag [vs D.Key, vs D.Val]), (50, ag [vs F.Key, vs F.Val])]) (fun bF => ?_) ?_
             ·refine WD.heavy2 9 13 z z (by kernel_rfl) ?_ ?_
              ·refine wY (yL ty59 z z a4.at_ z) z (nl (At.dq (sr_ _ _ _) (WD.heavy 13 z (by kernel_rfl) (wY (yL ty59 z z a5.at_ z) z (nl (At.dq (sr_ _ _ _) (WD.perm _ [13, 12, 11, 10, 9, 8, 7, 6, 5, 4, 3, 2, 1, 0] (by kernel_rfl) ?_)))))))
               exact bF () _ _ _ ⟨z, z, z⟩ (.cons z (.cons z (.cons z (.cons z (.cons z (.cons z (.cons z (.cons z (.cons z (.cons z (.cons z (.cons z .nil))))))))))))
              ·try simp only [Option.bind_assoc] at h
               try simp only [Option.bind_some] at h
               refine wY (yL ty59 z z a5.at_ z) z (nl (At.dq (sr_ _ _ _) (WD.heavy 9 z (by kernel_rfl) (wY (yL ty59 z z a4.at_ z) z (nl (At.dq (sr_ _ _ _) (WD.perm _ [13, 12, 11, 10, 9, 8, 7, 6, 5, 4, 3, 2, 1, 0] (by kernel_rfl) ?_)))))))
               exact bF () _ _ _ ⟨z, z, z⟩ (.cons z (.cons z (.cons z (.cons z (.cons z (.cons z (.cons z (.cons z (.cons z (.cons z (.cons z (.cons z .nil))))))))))))
             ·rintro _ _ _ ⟨rfl, rfl, rfl⟩
              replace h := d2
              refine (show WD _ _ _ _ _ _ _ _ [(0, c), (1, vi n), (2, vi o), (3, Value.func (.func 59) (List.toArray []) (List.toArray [])), (8, vi Q), (9, vi r), (37, c), (38, vi r), (39, c), (41, vi (w64 (r - 1))), (46, ag [vs D.Key, vs D.Val]), (50, ag [vs F.Key, vs F.Val])] _ _ from ?_)
              obtain ⟨cy, d3, h⟩ := bnd h
              obtain ⟨ip, hc, hJ, aD, d4, d5, aE, cz⟩ := OwnSl.at E d3
              obtain ⟨_, _, rfl, rfl, rfl⟩ := cz
              replace aE : CellsAt _ _ _ [vs cy.Key, vs cy.Val] := aE
              have he := CAt.own E aD aE
              refine WD.y 14 z (by kernel_rfl) (fun _ _ _ => Y.indexAddr ty33 ty59 z aD z d4 d5) z (WD.heavy 15 z (by kernel_rfl) ?_)
              obtain ⟨hK, cA, h⟩ := bnd h
              refine WL.storeOwn (R := rep_api_Pair) (u := D) (by decide) ty59 z z ⟨[vs D.Key], [vs D.Val], z, z, z⟩ E aD cA ?_
              intro hL a6 aF
              refine nl (At.dq (su_ a6 z) ?_)
              obtain ⟨cC, d6, h⟩ := bnd h
              obtain ⟨iq, hf, hM, aG, d7, d8, aH, cD⟩ := OwnSl.at aF d6
              obtain ⟨_, _, rfl, rfl, rfl⟩ := cD
              replace aH : CellsAt _ _ _ [vs cC.Key, vs cC.Val] := aH
              have hg := CAt.own aF aG aH
              refine WD.y 16 z (by kernel_rfl) (fun _ _ _ => Y.indexAddr ty33 ty59 z aG z d7 d8) z (WD.phase [1001] [0, 1, 2, 3, 4, 5, 6, 7, 8, 9, 10, 11, 12, 13, 14, 15, 16, 17] (by kernel_rfl) (by kernel_rfl) (WD.heavy 17 z (by kernel_rfl) ?_))
              obtain ⟨d9, cE, h⟩ := bnd h
              refine WL.storeOwn (R := rep_api_Pair) (u := F) (by decide) ty59 z z ⟨[vs F.Key], [vs F.Val], z, z, z⟩ aF aG cE ?_
              intro hN a7 ea
              refine nl (At.dq (su_ a7 z) (WD.done_ (by kernel_rfl) (At.inBlock (th (rg (wY (ym z) z (wY (Y.sub_i z z) z ?_)))))))
              obtain ⟨f2, eb, h⟩ := lt1 h
              refine WL.yE (ya z) (congrArg vi eb.symm) z (nl ?_)
              exact At.round (d9, f2, bq) fO (Nat.lt_succ_self _) ⟨next1 h bx, (tr_ (su_ ai z) (tr_ (su_ S z) (tr_ (su_ T z) (tr_ (su_ a3 z) (tr_ (su_ a6 z) (su_ a7 z)))))), ea⟩ (.cons z (.cons z (.cons z (.cons z (.cons z (.cons z .nil))))))
            ·refine WC.condF' z az (WC.exit (At.thenX (At.loopX ?_)))
             have ed := (ac.st S z z z).st T z z z
             obtain ⟨f3, cF, ee⟩ := OwnSl.rlb 1002 rfl ed
             exact At.hitB (σ := (List api_Pair × Own)) (b5, f3) ⟨brk1 h bx, (tr_ (su_ ai z) (tr_ (su_ S z) (tr_ (su_ T z) (su_ cF z)))), ee⟩ (.cons z (.cons z (.cons z (.cons z (.cons z .nil)))))
          ·rintro ⟨b6, ir⟩ hO ⟨rfl, a8, bG⟩
           replace h := flowK_go dC
           try dsimp only at h a8 bG
           refine (show At _ _ _ [(0, c), (1, vi n), (2, vi o), (3, Value.func (.func 59) (List.toArray []) (List.toArray [])), (8, vi Q)] _ from ?_)
           refine At.inBlockHit ?_
           obtain ⟨f4, cG, ef⟩ := OwnSl.rlb 1003 rfl bG
           exact At.join (σ := (List api_Pair × Own)) (b6, f4) ⟨some1 h, (tr_ (su_ a8 z) (su_ cG z)), ef⟩ (.cons z (.cons z (.cons z (.cons z (.cons z .nil)))))
         ·rintro ⟨b7, it⟩ hP ⟨rfl, a9, bH⟩
          replace h := dB
          try dsimp only at h a9 bH
          refine (show At _ _ _ [(0, c), (1, vi n), (2, vi o), (3, Value.func (.func 59) (List.toArray []) (List.toArray [])), (8, vi Q)] _ from ?_)
          refine At.inBlock (th (rg (wY (ym z) z (wY (Y.add_i z z) z ?_))))
          obtain ⟨f5, eg, h⟩ := lt1 h
          refine WL.yE (ya z) (congrArg vi eg.symm) z (nl ?_)
          obtain ⟨f6, cH, eh⟩ := OwnSl.rlb 1004 rfl bH
          exact At.round (b7, f5, f6) fK (Nat.lt_succ_self _) ⟨next1 h bw, (tr_ (su_ au z) (tr_ (su_ a9 z) (su_ cH z))), eh⟩ (.cons z (.cons z (.cons z (.cons z (.cons z .nil)))))
        ·refine WC.condF' z av (WC.exit (At.thenX (At.loopX ?_)))
         obtain ⟨f7, cI, ei⟩ := OwnSl.rlb 1005 rfl bp
         exact At.hitB (σ := (List api_Pair × Own)) (a1, f7) ⟨brk1 h bw, (tr_ (su_ au z) (su_ cI z)), ei⟩ .nil
       ·rintro ⟨hh, iU⟩ iu ⟨rfl, bI, cJ⟩
        replace h := flowK_go fJ
        try dsimp only at h bI cJ
        refine (show At _ _ _ [] _ from ?_)
        refine At.inBlockHit ?_
        obtain ⟨f8, cK, ej⟩ := OwnSl.rlb 1006 rfl cJ
        exact At.res (.inr z) z .nil ⟨(hh, f8), ⟨some1 h, (tr_ (su_ bI z) (su_ cK z)), ej⟩, z⟩
      ·rintro ⟨cL, iV⟩ iv ⟨rfl, bJ, cM⟩
       replace h := fH
       try dsimp only at h bJ cM
       refine (show WL _ _ _ _ _ ((18, tp []) :: _) _ from ?_)
       refine nl (th (sq (rg (wY (ym z) z (wY (ya z) z (nl (th (rg (wY (ym z) z ?_)))))))))
       refine wY (ym z) z (wY (Y.add_i z z) z ?_)
       obtain ⟨f9, ek, h⟩ := lt1 h
       refine WL.yE (ya z) (congrArg vi ek.symm) z (nl (At.inBlock ?_))
       obtain ⟨ga, cN, em⟩ := OwnSl.rlb 1007 rfl cM
       exact At.round (cL, o, f9, ga) g3 (Nat.lt_succ_self _) ⟨next1 h cf, (tr_ (su_ ar z) (tr_ (su_ bJ z) (su_ cN z))), em⟩ (.cons z (.cons z (.cons z (.cons z (.cons z (.cons z .nil))))))
     ·refine WC.condF' z bn (WC.exit (At.thenX (At.loopX ?_)))
      obtain ⟨gb, cO, en⟩ := OwnSl.rlb 1008 rfl bm
      exact At.hitB (σ := (List api_Pair × Int × Own)) (aZ, n, gb) ⟨brk1 h cf, (tr_ (su_ ar z) (su_ cO z)), en⟩ (.cons z (.cons z (.cons z (.cons z (.cons z .nil)))))
    ·rintro ⟨cP, fx, iW⟩ iw ⟨rfl, bK, cQ⟩
     replace h := flowK_go fF
     try dsimp only at h bK cQ
     refine (show At _ _ _ [(0, c), (1, vi (j.length : Int)), (2, Value.func (.func 59) (List.toArray []) (List.toArray [])), (6, vi 20), (7, vi fx)] _ from ?_)
     refine At.inBlockHit ?_
     obtain ⟨gc, cR, eo⟩ := OwnSl.rlb 1009 rfl cQ
     exact At.join (σ := (List api_Pair × Int × Own)) (cP, fx, gc) ⟨some1 h, (tr_ (su_ bK z) (su_ cR z)), eo⟩ (.cons z (.cons z (.cons z (.cons z (.cons z .nil)))))
   ·rintro ⟨cS, p, cT⟩ br ⟨rfl, bL, cU⟩
    replace h := fD
    try dsimp only at h bL cU
    refine (show At _ _ _ [(0, c), (1, vi (j.length : Int)), (2, Value.func (.func 59) (List.toArray []) (List.toArray [])), (6, vi 20), (7, vi p)] _ from ?_)
    refine th (sq (rg (wY (ym z) z (wY (ym z) z (wY (ym z) z (wY (ym z) z ?_))))))
    obtain ⟨gd, h, ep⟩ := bnd h
    refine WL.callJ (vals := [c, vi p, vi (j.length : Int), Value.func (.func 59) (List.toArray []) (List.toArray [])]) (σ := (List api_Pair × Own)) (fun x w' => x.1 = gd ∧ Stp [1009, 1010, 1011, 1012, 1013, 1014] cT br x.2 w' ∧ OwnSl 1015 rep_api_Pair 59 x.2 w' c x.1) (fun x => tp []) kok100 z z ?_ ?_
    ·refine Rets.enter Tryd.func100 z z ?_
     refine (show WC _ _ _ _ [(0, c), (1, vi p), (2, vi (j.length : Int)), (3, Value.func (.func 59) (List.toArray []) (List.toArray []))] _ from ?_)
     refine sq (rg (wY (ym z) z (wY (Y.add_i z z) z ?_)))
     obtain ⟨ge, er, h⟩ := lt1 h
     refine WL.yE (ya z) (congrArg vi er.symm) z (nl (th (WC.block ?_)))
     obtain ⟨cV, h, es⟩ := flow1 h
     obtain ⟨cW, h⟩ := loop_some h
     refine WC.joinB 0 (σ := (List api_Pair × Own)) (fun x w' => cV = .go x.1 ∧ Stp [1009, 1010, 1011, 1012, 1013] cT br x.2 w' ∧ OwnSl 1014 rep_api_Pair 59 x.2 w' c x.1) (fun x => []) ?_ ?_
     ·obtain ⟨gf, cX, et⟩ := OwnSl.rlb 1013 rfl cU
      refine WC.loop (σ := (List api_Pair × Int × Own)) (fun x k w' => loopN k (label_Sorted_lp4 j p) (x.1, x.2.1) = some cV ∧ Stp [1009, 1010, 1011, 1012, 1013] cT br x.2.2 w' ∧ OwnSl 1013 rep_api_Pair 59 x.2.2 w' c x.1) (fun x => [(0, c), (1, vi p), (2, vi (j.length : Int)), (3, Value.func (.func 59) (List.toArray []) (List.toArray [])), (8, vi x.2.1)]) (cS, ge, gf) cW (.cons z (.cons z (.cons z (.cons z (.cons z .nil))))) ⟨h, (su_ cX z), et⟩ ?_
      rintro ⟨aq, q, bs⟩ cW aI ⟨h, ak, aJ⟩
      obtain ⟨gg, iy, rfl, h, bM⟩ := rnd1 h
      unfold label_Sorted_lp4 at h
      try dsimp only at h ak aJ
      refine (show WC _ _ _ _ [(0, c), (1, vi p), (2, vi (j.length : Int)), (3, Value.func (.func 59) (List.toArray []) (List.toArray [])), (8, vi q)] _ from ?_)
      refine sq (sq (rg (wY (ym z) z (wY (ym z) z (wY (Y.lss_i z z) z (nl (th ?_)))))))
      rcases cnd h with ⟨aK, h⟩ | ⟨aK, h⟩
      ·refine WC.condT' z aK (sk (th (sq (WC.block (sq (rg (wY (ym z) z (wY (ya z) z (nl ?_)))))))))
       refine th ?_
       obtain ⟨gh, h, eu⟩ := bnd h
       refine WC.join (σ := (List api_Pair × Own)) (fun x w' => x.1 = gh ∧ Stp [1010, 1011, 1013] bs aI x.2 w' ∧ OwnSl 1012 rep_api_Pair 59 x.2 w' c x.1) (fun x => [(0, c), (1, vi p), (2, vi (j.length : Int)), (3, Value.func (.func 59) (List.toArray []) (List.toArray [])), (8, vi q)]) ?_ ?_
       ·refine WC.block ?_
        obtain ⟨cY, h, ew⟩ := flow1 h
        obtain ⟨cZ, h⟩ := loop_some h
        refine WC.joinB 2 (σ := (List api_Pair × Own)) (fun x w' => cY = .go x.1 ∧ Stp [1010, 1013] bs aI x.2 w' ∧ OwnSl 1011 rep_api_Pair 59 x.2 w' c x.1) (fun x => [(0, c), (1, vi p), (2, vi (j.length : Int)), (3, Value.func (.func 59) (List.toArray []) (List.toArray [])), (8, vi q)]) ?_ ?_
        ·obtain ⟨gi, c0, ex⟩ := OwnSl.rlb 1010 rfl aJ
         refine WC.loop (σ := (List api_Pair × Int × Own)) (fun x k w' => loopN k (label_Sorted_lp5 p) (x.1, x.2.1) = some cY ∧ Stp [1010, 1013] bs aI x.2.2 w' ∧ OwnSl 1010 rep_api_Pair 59 x.2.2 w' c x.1) (fun x => [(0, c), (1, vi p), (2, vi (j.length : Int)), (3, Value.func (.func 59) (List.toArray []) (List.toArray [])), (8, vi q), (9, vi x.2.1)]) (aq, q, gi) cZ (.cons z (.cons z (.cons z (.cons z (.cons z (.cons z .nil)))))) ⟨h, (su_ c0 z), ex⟩ ?_
         rintro ⟨b8, G, al⟩ cZ hQ ⟨h, am, ae⟩
         obtain ⟨gj, iz, rfl, h, bO⟩ := rnd1 h
         unfold label_Sorted_lp5 at h
         try dsimp only at h am ae
         refine (show WC _ _ _ _ [(0, c), (1, vi p), (2, vi (j.length : Int)), (3, Value.func (.func 59) (List.toArray []) (List.toArray [])), (8, vi q), (9, vi G)] _ from ?_)
         refine sq (sq (WC.drawH [] [0, 1, 2, 3, 4, 5, 6, 7, 8, 9, 10, 11, 12, 13, 14, 15, 16] al 17 fmix z (by kernel_rfl) ?_))
         intro bP U
         refine WD.y 0 z (by kernel_rfl) (fun _ _ _ => ym z) z (WD.y 1 z (by kernel_rfl) (fun _ _ _ => ym z) z (WD.y 2 z (by kernel_rfl) (fun _ _ _ => Y.gtr_i z z) z (WD.y 3 z (by kernel_rfl) (fun _ _ _ => ym z) z ?_)))
         obtain ⟨gk, h, ey⟩ := bnd h
         refine WD.join (σ := (Bool × Own)) (f' := 0) [16, 15, 14, 13, 12, 11, 10, 9, 8, 7, 6, 5, 4, 3, 2, 1, 0] (fun x O' w' => x.1 = gk ∧ Stp [] al bP x.2 w' ∧ x.2 = O') (fun x => [(0, c), (1, vi p), (2, vi (j.length : Int)), (3, Value.func (.func 59) (List.toArray []) (List.toArray [])), (8, vi q), (9, vi G), (34, vB x.1)]) (fun bQ => ?_) ?_
         ·rcases cnd h with ⟨Z, h⟩ | ⟨Z, h⟩
          ·refine WD.ren 21 z (congrArg vB Z) (WD.gT 4 z (by kernel_rfl) z z (fun _ _ _ => ym z) z (WD.gT 5 z (by kernel_rfl) z z (fun _ _ _ => ym z) z (WD.gT 6 z (by kernel_rfl) z z (fun _ _ _ => ym z) z ?_)))
           obtain ⟨H, ez, h⟩ := bnd h
           have af := ae.st U z z z
           obtain ⟨iA, hj, hR, bR, eA, eB, aL, c1⟩ := OwnSl.at af ez
           obtain ⟨_, _, rfl, rfl, rfl⟩ := c1
           replace aL : CellsAt _ _ _ [vs H.Key, vs H.Val] := aL
           have c2 := CAt.own af bR aL
           refine WD.gT 7 z (by kernel_rfl) z z (fun _ _ _ => Y.indexAddr ty33 ty59 z bR z eA eB) z (WD.gT 8 z (by kernel_rfl) z z (fun hS iB c3 => have eC := c2.st c3 z; yL ty59 z z eC.at_ z) z (WD.gT 9 z (by kernel_rfl) z z (fun _ _ _ => ym z) z (WD.gT 10 z (by kernel_rfl) z z (fun _ _ _ => ym z) z (WD.gT 11 z (by kernel_rfl) z z (fun _ _ _ => Y.sub_i z z) z ?_))))
           obtain ⟨I, eD, h⟩ := bnd h
           obtain ⟨iC, hm, hT, bS, eE, eF, aM, c4⟩ := OwnSl.at af eD
           obtain ⟨_, _, rfl, rfl, rfl⟩ := c4
           replace aM : CellsAt _ _ _ [vs I.Key, vs I.Val] := aM
           have c5 := CAt.own af bS aM
           refine WD.gT 12 z (by kernel_rfl) z z (fun _ _ _ => Y.indexAddr ty33 ty59 z bS z eE eF) z (WD.gT 13 z (by kernel_rfl) z z (fun hU iD c6 => have eG := c5.st c6 z; yL ty59 z z eG.at_ z) z (WD.heavy 14 z (by kernel_rfl) (ug z z ?_)))
           obtain ⟨gl, h, eH⟩ := bnd h
           refine WL.callV (fv := []) (cv := []) (vals := [ag [vs H.Key, vs H.Val], ag [vs I.Key, vs I.Val]]) (σ := (Int × Own)) (fun x w' => x.1 = gl ∧ Stp [] al bP x.2 w') (fun x => vi x.1) kok59 z z z ?_ ?_
           ·refine Rets.enter Tryd.func59 z z ?_
            refine (show WC _ _ _ _ [(0, ag [vs H.Key, vs H.Val]), (1, ag [vs I.Key, vs I.Val])] _ from ?_)
            refine sq (rg (WL.box (O := al) 14 [vs H.Key, vs H.Val] z z z ?_))
            intro iE gm hV c7 eI
            refine WL.box (O := gm) 15 [vs I.Key, vs I.Val] z z z ?_
            intro iF gn hW ba eJ
            refine wY (ya z) z (nl (th (sq (rg (wY (yf fo59_0 z) z ?_)))))
            have eK := eI.st ba z
            refine wY (yl ty9 z z (eK.cell 0 _ z)) z (wY (yf fo59_0 z) z (wY (yl ty9 z z (eJ.cell 0 _ z)) z ?_))
            obtain ⟨gp, eL, h⟩ := bnd h
            refine WL.call (vals := [vs H.Key, vs I.Key]) kok60 z z (c_cmp_Compare_string eL) ?_
            rintro hX hY ⟨rfl, eM⟩
            obtain ⟨gq, gU, gV, c8⟩ := adoptE gn (fun k => 1) eM
            refine wY (ya z) z (nl (th (rt ?_)))
            exact At.res (.inl z) z (.tmp z .nil) ⟨(gp, gq), ⟨some1 h, (tr_ (su_ c7 z) (tr_ (su_ ba z) (su_ c8 z)))⟩, z⟩
           ·rintro ⟨c9, gr⟩ hZ ⟨rfl, an⟩
            replace h := eH
            try dsimp only at h an
            refine (show WL _ _ _ _ _ ((32, vi c9) :: _) _ from ?_)
            refine nl (At.dq (su_ an z) (WD.gT 15 z (by kernel_rfl) z z (fun _ _ _ => Y.lss_i z z) z (WD.y 16 z (by kernel_rfl) (fun _ _ _ => Y.pick (b := true) z z) z (WD.ren 21 z (congrArg vB Z.symm) ?_))))
            exact bQ (decide (c9 < 0), gr) _ _ _ ⟨some1 h, (su_ an z), z⟩ (.cons z (.cons z (.cons z (.cons z (.cons z (.cons z (.cons z .nil)))))))
          ·refine WD.ren 21 z (congrArg vB Z) (WD.gS 4 z (by kernel_rfl) z z z z (WD.gS 5 z (by kernel_rfl) z z z z (WD.gS 6 z (by kernel_rfl) z z z z (WD.gS 7 z (by kernel_rfl) z z z z (WD.gS 8 z (by kernel_rfl) z z z z (WD.gS 9 z (by kernel_rfl) z z z z (WD.gS 10 z (by kernel_rfl) z z z z (WD.gS 11 z (by kernel_rfl) z z z z (WD.gS 12 z (by kernel_rfl) z z z z ?_)))))))))
           refine WD.gS 13 z (by kernel_rfl) z z z z (WD.heavy 14 z (by kernel_rfl) (WL.gS z z z z (nl (At.dq (sr_ _ _ _) (WD.gS 15 z (by kernel_rfl) z z z z (WD.y 16 z (by kernel_rfl) (fun _ _ _ => Y.pick (b := false) z z) z (WD.ren 21 z (congrArg vB Z.symm) ?_)))))))
           exact bQ (false, al) _ _ _ ⟨some1 h, (sr_ _ _ _), z⟩ (.cons z (.cons z (.cons z (.cons z (.cons z (.cons z (.cons z .nil)))))))
         ·rintro ⟨gs, bt⟩ _ h0 ⟨rfl, V, rfl⟩
          replace h := ey
          try dsimp only at h V
          refine (show WD _ _ _ _ _ _ _ _ [(0, c), (1, vi p), (2, vi (j.length : Int)), (3, Value.func (.func 59) (List.toArray []) (List.toArray [])), (8, vi q), (9, vi G), (34, vB gs)] _ _ from ?_)
          refine WD.done_ (by kernel_rfl) (th ?_)
          rcases cnd h with ⟨aN, h⟩ | ⟨aN, h⟩
          ·refine WC.condT' z aN (sk (th (sq (WC.block (WC.drawH [1010] [0, 1, 2, 3, 4, 5, 6, 7, 8, 9, 10, 11, 12, 13, 14, 15, 16] bt 18 fmix z (by kernel_rfl) ?_)))))
           intro eN bb
           refine WD.y 0 z (by kernel_rfl) (fun _ _ _ => ym z) z (WD.y 1 z (by kernel_rfl) (fun _ _ _ => ym z) z (WD.y 2 z (by kernel_rfl) (fun _ _ _ => ym z) z (WD.y 3 z (by kernel_rfl) (fun _ _ _ => ym z) z (WD.y 4 z (by kernel_rfl) (fun _ _ _ => Y.sub_i z z) z (WD.y 5 z (by kernel_rfl) (fun _ _ _ => ym z) z (WD.y 6 z (by kernel_rfl) (fun _ _ _ => ym z) z (WD.y 7 z (by kernel_rfl) (fun _ _ _ => Y.sub_i z z) z ?_)))))))
           obtain ⟨J, eO, h⟩ := bnd h
           have K := ((ae.st U z z z).st V z z z).st bb z z z
           obtain ⟨iG, hn, h1, bT, eR, eS, aO, da⟩ := OwnSl.at K eO
           obtain ⟨_, _, rfl, rfl, rfl⟩ := da
           replace aO : CellsAt _ _ _ [vs J.Key, vs J.Val] := aO
           have bc := CAt.own K bT aO
           refine WD.y 8 z (by kernel_rfl) (fun _ _ _ => Y.indexAddr ty33 ty59 z bT z eR eS) z (WD.y 10 z (by kernel_rfl) (fun _ _ _ => ym z) z (WD.y 11 z (by kernel_rfl) (fun _ _ _ => ym z) z ?_))
           obtain ⟨M, eT, h⟩ := bnd h
           obtain ⟨iH, ho, h2, bU, eU, eV, aP, db⟩ := OwnSl.at K eT
           obtain ⟨_, _, rfl, rfl, rfl⟩ := db
           replace aP : CellsAt _ _ _ [vs M.Key, vs M.Val] := aP
           have bd := CAt.own K bU aP
           refine WD.y 12 z (by kernel_rfl) (fun _ _ _ => Y.indexAddr ty33 ty59 z bU z eU eV) z ?_
           obtain ⟨gt, h, eW⟩ := bnd h
           refine WD.join (σ := Unit) (f' := 4) [13, 12, 11, 10, 9, 8, 7, 6, 5, 4, 3, 2, 1, 0] (fun x O' w' => () = gt ∧ eN = w' ∧ bt = O') (fun x => [(0, c), (1, vi p), (2, vi (j.length : Int)), (3, Value.func (.func 59) (List.toArray []) (List.toArray [])), (8, vi q), (9, vi G), (37, c), (38, vi G), (39, c), (41, vi (w64 (G - 1))), (46, ag [vs J.Key, vs J.Val]), (50, ag [vs M.Key, vs M.Val])]) (fun bW => ?_) ?_
           ·refine WD.heavy2 9 13 z z (by kernel_rfl) ?_ ?_
            ·refine wY (yL ty59 z z bc.at_ z) z (nl (At.dq (sr_ _ _ _) (WD.heavy 13 z (by kernel_rfl) (wY (yL ty59 z z bd.at_ z) z (nl (At.dq (sr_ _ _ _) (WD.perm _ [13, 12, 11, 10, 9, 8, 7, 6, 5, 4, 3, 2, 1, 0] (by kernel_rfl) ?_)))))))
             exact bW () _ _ _ ⟨z, z, z⟩ (.cons z (.cons z (.cons z (.cons z (.cons z (.cons z (.cons z (.cons z (.cons z (.cons z (.cons z (.cons z .nil))))))))))))
            ·try simp only [Option.bind_assoc] at h
             try simp only [Option.bind_some] at h
             refine wY (yL ty59 z z bd.at_ z) z (nl (At.dq (sr_ _ _ _) (WD.heavy 9 z (by kernel_rfl) (wY (yL ty59 z z bc.at_ z) z (nl (At.dq (sr_ _ _ _) (WD.perm _ [13, 12, 11, 10, 9, 8, 7, 6, 5, 4, 3, 2, 1, 0] (by kernel_rfl) ?_)))))))
             exact bW () _ _ _ ⟨z, z, z⟩ (.cons z (.cons z (.cons z (.cons z (.cons z (.cons z (.cons z (.cons z (.cons z (.cons z (.cons z (.cons z .nil))))))))))))
           ·rintro _ _ _ ⟨rfl, rfl, rfl⟩
            replace h := eW
            refine (show WD _ _ _ _ _ _ _ _ [(0, c), (1, vi p), (2, vi (j.length : Int)), (3, Value.func (.func 59) (List.toArray []) (List.toArray [])), (8, vi q), (9, vi G), (37, c), (38, vi G), (39, c), (41, vi (w64 (G - 1))), (46, ag [vs J.Key, vs J.Val]), (50, ag [vs M.Key, vs M.Val])] _ _ from ?_)
            obtain ⟨dc, eX, h⟩ := bnd h
            obtain ⟨iI, hp, h3, aQ, eY, eZ, aR, dd⟩ := OwnSl.at K eX
            obtain ⟨_, _, rfl, rfl, rfl⟩ := dd
            replace aR : CellsAt _ _ _ [vs dc.Key, vs dc.Val] := aR
            have hq := CAt.own K aQ aR
            refine WD.y 14 z (by kernel_rfl) (fun _ _ _ => Y.indexAddr ty33 ty59 z aQ z eY eZ) z (WD.heavy 15 z (by kernel_rfl) ?_)
            obtain ⟨h4, de, h⟩ := bnd h
            refine WL.storeOwn (R := rep_api_Pair) (u := J) (by decide) ty59 z z ⟨[vs J.Key], [vs J.Val], z, z, z⟩ K aQ de ?_
            intro h5 bf aS
            refine nl (At.dq (su_ bf z) ?_)
            obtain ⟨df, e0, h⟩ := bnd h
            obtain ⟨iJ, hr, h6, aT, e1, e2, aU, dg⟩ := OwnSl.at aS e0
            obtain ⟨_, _, rfl, rfl, rfl⟩ := dg
            replace aU : CellsAt _ _ _ [vs df.Key, vs df.Val] := aU
            have hs := CAt.own aS aT aU
            refine WD.y 16 z (by kernel_rfl) (fun _ _ _ => Y.indexAddr ty33 ty59 z aT z e1 e2) z (WD.phase [1010] [0, 1, 2, 3, 4, 5, 6, 7, 8, 9, 10, 11, 12, 13, 14, 15, 16, 17] (by kernel_rfl) (by kernel_rfl) (WD.heavy 17 z (by kernel_rfl) ?_))
            obtain ⟨e5, dh, h⟩ := bnd h
            refine WL.storeOwn (R := rep_api_Pair) (u := M) (by decide) ty59 z z ⟨[vs M.Key], [vs M.Val], z, z, z⟩ aS aT dh ?_
            intro h7 bg e6
            refine nl (At.dq (su_ bg z) (WD.done_ (by kernel_rfl) (At.inBlock (th (rg (wY (ym z) z (wY (Y.sub_i z z) z ?_)))))))
            obtain ⟨gu, e7, h⟩ := lt1 h
            refine WL.yE (ya z) (congrArg vi e7.symm) z (nl ?_)
            exact At.round (e5, gu, bt) gj (Nat.lt_succ_self _) ⟨next1 h bO, (tr_ (su_ am z) (tr_ (su_ U z) (tr_ (su_ V z) (tr_ (su_ bb z) (tr_ (su_ bf z) (su_ bg z)))))), e6⟩ (.cons z (.cons z (.cons z (.cons z (.cons z (.cons z .nil))))))
          ·refine WC.condF' z aN (WC.exit (At.thenX (At.loopX ?_)))
           have e9 := (ae.st U z z z).st V z z z
           obtain ⟨gw, di, fa⟩ := OwnSl.rlb 1011 rfl e9
           exact At.hitB (σ := (List api_Pair × Own)) (b8, gw) ⟨brk1 h bO, (tr_ (su_ am z) (tr_ (su_ U z) (tr_ (su_ V z) (su_ di z)))), fa⟩ (.cons z (.cons z (.cons z (.cons z (.cons z .nil)))))
        ·rintro ⟨b9, iK⟩ h8 ⟨rfl, bh, bX⟩
         replace h := flowK_go ew
         try dsimp only at h bh bX
         refine (show At _ _ _ [(0, c), (1, vi p), (2, vi (j.length : Int)), (3, Value.func (.func 59) (List.toArray []) (List.toArray [])), (8, vi q)] _ from ?_)
         refine At.inBlockHit ?_
         obtain ⟨gz, dj, fc⟩ := OwnSl.rlb 1012 rfl bX
         exact At.join (σ := (List api_Pair × Own)) (b9, gz) ⟨some1 h, (tr_ (su_ bh z) (su_ dj z)), fc⟩ (.cons z (.cons z (.cons z (.cons z (.cons z .nil)))))
       ·rintro ⟨ca, iL⟩ h9 ⟨rfl, bi, bY⟩
        replace h := eu
        try dsimp only at h bi bY
        refine (show At _ _ _ [(0, c), (1, vi p), (2, vi (j.length : Int)), (3, Value.func (.func 59) (List.toArray []) (List.toArray [])), (8, vi q)] _ from ?_)
        refine At.inBlock (th (rg (wY (ym z) z (wY (Y.add_i z z) z ?_))))
        obtain ⟨gB, fd, h⟩ := lt1 h
        refine WL.yE (ya z) (congrArg vi fd.symm) z (nl ?_)
        obtain ⟨gC, dk, fe⟩ := OwnSl.rlb 1013 rfl bY
        exact At.round (ca, gB, gC) gg (Nat.lt_succ_self _) ⟨next1 h bM, (tr_ (su_ ak z) (tr_ (su_ bi z) (su_ dk z))), fe⟩ (.cons z (.cons z (.cons z (.cons z (.cons z .nil)))))
      ·refine WC.condF' z aK (WC.exit (At.thenX (At.loopX ?_)))
       obtain ⟨gE, dl, ff⟩ := OwnSl.rlb 1014 rfl aJ
       exact At.hitB (σ := (List api_Pair × Own)) (aq, gE) ⟨brk1 h bM, (tr_ (su_ ak z) (su_ dl z)), ff⟩ .nil
     ·rintro ⟨gG, iM⟩ ia ⟨rfl, bj, bZ⟩
      replace h := flowK_go es
      try dsimp only at h bj bZ
      refine (show At _ _ _ [] _ from ?_)
      refine At.inBlockHit ?_
      obtain ⟨gH, dm, fg⟩ := OwnSl.rlb 1015 rfl bZ
      exact At.res (.inr z) z .nil ⟨(gG, gH), ⟨some1 h, (tr_ (su_ bj z) (su_ dm z)), fg⟩, z⟩
    ·rintro ⟨cb, iN⟩ P ⟨rfl, bk, b0⟩
     replace h := ep
     try dsimp only at h bk b0
     refine (show WL _ _ _ _ _ ((27, tp []) :: _) _ from ?_)
     refine nl (th (WC.block ?_))
     obtain ⟨dn, h, fh⟩ := flow1 h
     obtain ⟨dp, h⟩ := loop_some h
     refine WC.joinB 2 (σ := Unit) (fun x w' => dn = .go () ∧ P = w') (fun x => []) ?_ ?_
     ·refine WC.loop (σ := Int) (fun x k w' => loopN k (label_Sorted_lp6 j) x = some dn ∧ P = w') (fun x => [(0, c), (1, vi (j.length : Int)), (2, Value.func (.func 59) (List.toArray []) (List.toArray [])), (6, vi x)]) 20 dp (.cons z (.cons z (.cons z (.cons z .nil)))) ⟨h, z⟩ ?_
      rintro m dp _ ⟨h, rfl⟩
      obtain ⟨gI, iO, rfl, h, b1⟩ := rnd1 h
      unfold label_Sorted_lp6 at h
      try dsimp only at h
      refine (show WC _ _ _ _ [(0, c), (1, vi (j.length : Int)), (2, Value.func (.func 59) (List.toArray []) (List.toArray [])), (6, vi m)] _ from ?_)
      refine sq (sq (rg (wY (ym z) z (wY (ym z) z (wY (Y.lss_i z z) z (nl (th ?_)))))))
      rcases cnd h with ⟨aW, h⟩ | ⟨aW, h⟩
      ·refine WC.condT' z aW (sk (th ?_))
       obtain ⟨gJ, h, fi⟩ := bnd h
       refine WC.join (σ := Int) (fun x w' => x = gJ ∧ P = w') (fun x => [(0, c), (1, vi (j.length : Int)), (2, Value.func (.func 59) (List.toArray []) (List.toArray [])), (6, vi x)]) ?_ ?_
       ·refine WC.block (sq (rg (wY (ym z) z (wY (Y.mul_i z z) z (wY (ya z) z ?_)))))
        obtain ⟨bu, fj, h⟩ := lt1 h
        refine WL.yE (ya z) (congrArg vi fj.symm) z (nl (th (sq ?_)))
        obtain ⟨gK, h, fk⟩ := bnd h
        refine WC.join (σ := Unit) (fun x w' => () = gK ∧ P = w') (fun x => [(0, c), (1, vi (j.length : Int)), (2, Value.func (.func 59) (List.toArray []) (List.toArray [])), (6, vi m), (7, vi 0)]) ?_ ?_
        ·refine WC.block ?_
         obtain ⟨dr, h, fl⟩ := flow1 h
         obtain ⟨ds, h⟩ := loop_some h
         refine WC.joinB 4 (σ := Unit) (fun x w' => dr = .go () ∧ P = w') (fun x => [(0, c), (1, vi (j.length : Int)), (2, Value.func (.func 59) (List.toArray []) (List.toArray [])), (6, vi m), (7, vi 0)]) ?_ ?_
         ·refine WC.loop (σ := Unit) (fun x k w' => loopN k (label_Sorted_lp7 j bu) () = some dr ∧ P = w') (fun x => [(0, c), (1, vi (j.length : Int)), (2, Value.func (.func 59) (List.toArray []) (List.toArray [])), (6, vi m), (7, vi 0), (8, vi bu)]) () ds (.cons z (.cons z (.cons z (.cons z (.cons z (.cons z .nil)))))) ⟨h, z⟩ ?_
          rintro _ ds _ ⟨h, rfl⟩
          obtain ⟨iP, iQ, rfl, h, fm⟩ := rnd1 h
          unfold label_Sorted_lp7 at h
          refine (show WC _ _ _ _ [(0, c), (1, vi (j.length : Int)), (2, Value.func (.func 59) (List.toArray []) (List.toArray [])), (6, vi m), (7, vi 0), (8, vi bu)] _ from ?_)
          refine sq (sq (rg (wY (ym z) z (wY (ym z) z (wY (Y.leq_i z z) z (nl (th ?_)))))))
          rcases cnd h with ⟨aX, h⟩ | ⟨aX, h⟩
          ·refine WC.condT' z aX (sk (th (WC.block (sq (rg (wY (ym z) z (wY (ym z) z (wY (ym z) z (wY (ym z) z ?_)))))))))
           refine wY (Y.add_i z z) z (wY (ym z) z (wY (ym z) z ?_))
           cases h
          ·refine WC.condF' z aX (WC.exit (At.thenX (At.loopX ?_)))
           exact At.hitB (σ := Unit) () ⟨brk1 h fm, z⟩ (.cons z (.cons z (.cons z (.cons z (.cons z .nil)))))
         ·rintro _ _ ⟨rfl, rfl⟩
          replace h := flowK_go fl
          refine (show At _ _ _ [(0, c), (1, vi (j.length : Int)), (2, Value.func (.func 59) (List.toArray []) (List.toArray [])), (6, vi m), (7, vi 0)] _ from ?_)
          refine At.inBlockHit ?_
          exact At.join (σ := Unit) () ⟨some1 h, z⟩ (.cons z (.cons z (.cons z (.cons z (.cons z .nil)))))
        ·rintro _ _ ⟨rfl, rfl⟩
         replace h := fk
         refine (show At _ _ _ [(0, c), (1, vi (j.length : Int)), (2, Value.func (.func 59) (List.toArray []) (List.toArray [])), (6, vi m), (7, vi 0)] _ from ?_)
         refine th (sq ?_)
         obtain ⟨gL, h, fn⟩ := bnd h
         refine WC.join (σ := Unit) (fun x w' => () = gL ∧ P = w') (fun x => [(0, c), (1, vi (j.length : Int)), (2, Value.func (.func 59) (List.toArray []) (List.toArray [])), (6, vi m)]) ?_ ?_
         ·refine sq (rg (wY (ym z) z (wY (ym z) z (wY (Y.add_i z z) z ?_))))
          obtain ⟨iR, fo, h⟩ := lt1 h
          refine WL.yE (ya z) (congrArg vi fo.symm) z (nl (th (sq (rg (wY (ym z) z (wY (ym z) z (wY (Y.lss_i z z) z (nl (th ?_)))))))))
          rcases cnd h with ⟨aY, h⟩ | ⟨aY, h⟩
          ·refine WC.condT' z aY (rg (wY (ym z) z (wY (ym z) z (wY (ym z) z (wY (ym z) z (wY (ym z) z ?_))))))
           cases h
          ·refine WC.condF' z aY (sk ?_)
           exact At.join (σ := Unit) () ⟨some1 h, z⟩ (.cons z (.cons z (.cons z (.cons z .nil))))
         ·rintro _ _ ⟨rfl, rfl⟩
          replace h := fn
          refine (show At _ _ _ [(0, c), (1, vi (j.length : Int)), (2, Value.func (.func 59) (List.toArray []) (List.toArray [])), (6, vi m)] _ from ?_)
          refine th (rg (wY (ym z) z (wY (Y.mul_i z z) z ?_)))
          obtain ⟨ao, ab, h⟩ := lt1 h
          refine WL.yE (ya z) (congrArg vi ab.symm) z (nl (At.inBlock ?_))
          exact At.join (σ := Int) ao ⟨some1 h, z⟩ (.cons z (.cons z (.cons z (.cons z .nil))))
       ·rintro W _ ⟨rfl, rfl⟩
        replace h := fi
        try dsimp only at h
        refine (show At _ _ _ [(0, c), (1, vi (j.length : Int)), (2, Value.func (.func 59) (List.toArray []) (List.toArray [])), (6, vi W)] _ from ?_)
        exact At.round W gI (Nat.lt_succ_self _) ⟨next1 h b1, z⟩ (.cons z (.cons z (.cons z (.cons z .nil))))
      ·refine WC.condF' z aW (WC.exit (At.thenX (At.loopX ?_)))
       exact At.hitB (σ := Unit) () ⟨brk1 h b1, z⟩ .nil
     ·rintro _ _ ⟨rfl, rfl⟩
      replace h := flowK_go fh
      refine (show At _ _ _ [] _ from ?_)
      refine At.inBlockHit ?_
      obtain ⟨gM, dt, fp⟩ := OwnSl.rlb 1016 rfl b0
      exact At.res (.inr z) z .nil ⟨(cb, gM), ⟨some1 h, (tr_ (su_ bL z) (tr_ (su_ bk z) (su_ dt z))), fp⟩, z⟩
  ·rintro ⟨ht, iX⟩ iS ⟨rfl, b2, du⟩
   replace h := fC
   try dsimp only at h b2 du
   refine (show WL _ _ _ _ _ ((8, tp []) :: _) _ from ?_)
   refine nl ?_
   obtain ⟨gO, dw, fq⟩ := OwnSl.rlb 1018 rfl du
   exact At.res (.inr z) z .nil ⟨(ht, gO), ⟨some1 h, (tr_ (su_ b2 z) (su_ dw z)), fq⟩, z⟩
 ·rintro ⟨ib, hu⟩ gP ⟨rfl, b3, dx⟩
  replace h := fB
  try dsimp only at h b3 dx
  refine (show WL _ _ _ _ _ ((7, tp []) :: _) _ from ?_)
  refine nl (th (sq (rg (wY (ym z) z (wY (ya z) z (nl (th (rt ?_))))))))
  obtain rfl := some1 h
  have b4 : Stp [11, 1001, 1002, 1003, 1004, 1005, 1006, 1007, 1008, 1009, 1010, 1011, 1012, 1013, 1014, 1015, 1016] (Lg.O0 A) w hu gP := (tr_ (su_ dy z) (su_ b3 z))
  exact At.res (.inl z) z (.tmp z .nil) ⟨c, z, (se_ b4 z z), (OwnSl.outF dx b4 low0 z)⟩
theorem c_relabel_Rules_Apply {A : Nat → Prop} {v0_0 : Value} {a0 : relabel_Rules} {b0 : Nat} {v1_1 : Value} {v1_13 : Value} {v1_15 : Value} {a1 : api_Point} {w : World} (hs0_0 : Sl rep_relabel_rule w A v0_0 a0.l) (hb0 : w.heap[b0]? = some (.cells (List.toArray [v0_0]) 71 (0, 0))) (hm0 : A b0) (hs1_1 : Sl rep_api_Pair w A v1_1 a1.Attrs) (hs1_13 : Sl Rep.u w A v1_13 a1.Hist.Pos.Counts) (hs1_15 : Sl Rep.u w A v1_15 a1.Hist.Neg.Counts) {r0 : api_Point} {r1 : Bool} {r2 : Int} (h : relabel_Rules_Apply a0 a1 = some (r0, r1, r2)) : Rets Tryd.prog 14 [pt b0 0, ag (cp a1 v1_1 v1_13 v1_15)] w (fun v w' => ∃ (ad : Value) (U : Value) (V : Value), v = Value.tuple (List.toArray [ag (cp r0 ad U V), vB r1, vi r2]) ∧ Ext w w' ∧ RowF rep_api_Pair 59 w w' ad r0.Attrs ∧ RowF Rep.u 34 w w' U r0.Hist.Pos.Counts ∧ RowF Rep.u 34 w w' V r0.Hist.Neg.Counts ∧ (∀ k, ob ad = some k → ob U ≠ some k) ∧ (∀ k, ob ad = some k → ob V ≠ some k) ∧ (∀ k, ob U = some k → ob V ≠ some k)) := by
 unfold relabel_Rules_Apply at h
 refine Rets.enter Tryd.func14 z z ?_
 have b4 : Sl rep_relabel_rule w (imm (Lg.O0 A)) v0_0 a0.l := (Sl.start hs0_0)
 have b5 : Blk 0 (Lg.O0 A) w b0 71 [v0_0] := ⟨(if_pos hm0), hb0⟩
 have aT : Sl rep_api_Pair w (imm (Lg.O0 A)) v1_1 a1.Attrs := (Sl.start hs1_1)
 have aU : Sl Rep.u w (imm (Lg.O0 A)) v1_13 a1.Hist.Pos.Counts := (Sl.start hs1_13)
 have aW : Sl Rep.u w (imm (Lg.O0 A)) v1_15 a1.Hist.Neg.Counts := (Sl.start hs1_15)
 refine (show WC _ _ _ _ [(0, pt b0 0), (1, ag (cp a1 v1_1 v1_13 v1_15))] _ from ?_)
 refine sq (rg ?_)
 have b6 := h
 obtain ⟨aq, ar, au, rfl⟩ := aT.shape
 have h := b6
 have b7 := h
 obtain ⟨av, ax, ay, rfl⟩ := aU.shape
 have h := b7
 have b8 := h
 obtain ⟨az, aA, aC, rfl⟩ := aW.shape
 have h := b8
 refine WL.box (O := (Lg.O0 A)) 11 (cp a1 (vl aq ar au) (vl av ax ay) (vl az aA aC)) z z z ?_
 intro c5 cJ cY o b9
 refine WL.alloc (O := cJ) 12 [vs [], sn, vi 0, vi 0, vB false, vi 0, vi 0, vi 0, vu 0, vu 0, vi 0, vu 0, vi 0, sn, vi 0, sn, vi 0] ty41 z z ?_
 intro bQ cK cZ j aX
 refine wY (ya z) z (wY (ya z) z (nl (th (sq (sq (rg ?_))))))
 have aY := b9.st j z
 refine wY (yL ty41 z z (aY.cells 0 (cp a1 (vl aq ar au) (vl av ax ay) (vl az aA aC)) z) z) z ?_
 have aZ := (aT.i o z z).i j z z
 have a2 := (aU.i o z z).i j z z
 have a3 := (aW.i o z z).i j z z
 obtain ⟨c6, cd, h⟩ := bnd h
 refine WL.call (vals := [ag (cp a1 (vl aq ar au) (vl av ax ay) (vl az aA aC))]) kok31 z z (c_point_Check (A := fun _ => True) (a0 := a1) (Sl.all aZ) (Sl.all a2) (Sl.all a3) cd) ?_
 rintro c0 c1 ⟨rfl, ce⟩
 obtain ⟨bR, cL, cM, c⟩ := adoptE cK (fun k => 1) ce
 refine wY (ya z) z (nl (th (sq (rg (wY (ym z) z (wY (Y.neq_i z z) z (nl (th ?_))))))))
 rcases cnd h with ⟨aE, h⟩ | ⟨aE, h⟩
 ·refine WC.condT' z aE (sq (rg (wY (yb (vals := []) (cells := [vs [], sn, vi 0, vi 0, vB false, vi 0, vi 0, vi 0, vu 0, vu 0, vi 0, vu 0, vi 0, sn, vi 0, sn, vi 0]) (fe_ z) (by kernel_rfl)) z (wY (ym z) z ?_))))
  have cf := aX.st c z
  refine WL.store (v := Value.agg (List.toArray [vs [], sn, vi 0, vi 0, vB false, vi 0, vi 0, vi 0, vu 0, vu 0, vi 0, vu 0, vi 0, sn, vi 0, sn, vi 0])) (cells' := [vs [], sn, vi 0, vi 0, vB false, vi 0, vi 0, vi 0, vu 0, vu 0, vi 0, vu 0, vi 0, sn, vi 0, sn, vi 0]) ty41 z z cf z (le_ z) z z ?_
  intro cg bc ch
  refine wY (ya z) z (wY (ya z) z (nl (th (rt (At.thenR ?_)))))
  obtain ⟨rfl, rfl, rfl⟩ := tup3 h
  have ci : Stp [12] (Lg.O0 A) w bR cg := (tr_ (su_ o z) (tr_ (su_ j z) (tr_ (su_ c z) (su_ bc z))))
  exact At.res (.inl z) z (.cell z (ch.runAg 0 [vs [], sn, vi 0, vi 0, vB false, vi 0, vi 0, vi 0, vu 0, vu 0, vi 0, vu 0, vi 0, sn, vi 0, sn, vi 0] ty41 z z z) (.tmp z (.tmp z .nil))) ⟨sn, sn, sn, z, (se_ ci z z), RowF.nil, RowF.nil, RowF.nil, (fun _ e => absurd e not_nil), (fun _ e => absurd e not_nil), (fun _ e => absurd e not_nil)⟩
 ·refine WC.condF' z aE (sk (th (sq (rg ?_))))
  have cj := aY.st c z
  refine wY (yL ty41 z z (cj.cells 0 (cp a1 (vl aq ar au) (vl av ax ay) (vl az aA aC)) z) z) z ?_
  have ck := aZ.i c z z
  have cl := a2.i c z z
  have cm := a3.i c z z
  obtain ⟨ac, cn, h⟩ := bnd h
  refine WL.call (vals := [ag (cp a1 (vl aq ar au) (vl av ax ay) (vl az aA aC))]) kok21 z z (c_point_Clone (A := fun _ => True) (a0 := a1) (Sl.all ck) (Sl.all cl) (Sl.all cm) cn) ?_
  rintro c2 aF ⟨aH, a4, bS, rfl, co, cN, cO, cP, cQ, cR, cS⟩
  obtain ⟨aD, cT, aa, F⟩ := adoptE bR (fun k => if ob aH = some k then 13 else if ob a4 = some k then 14 else if ob bS = some k then 15 else 1) co
  have a5 : OwnSl 13 rep_api_Pair 59 aD aF aH ac.Attrs := RowF.adopt 13 flat_api_Pair cN aa (fun k hk => if_pos hk)
  have a6 : OwnSl 14 Rep.u 34 aD aF a4 ac.Hist.Pos.Counts := RowF.adopt 14 Flat.u cO aa (fun k hk => (if_neg (fun (e : ob aH = some k) => cQ k e hk)).trans (if_pos hk))
  have a7 : OwnSl 15 Rep.u 34 aD aF bS ac.Hist.Neg.Counts := RowF.adopt 15 Flat.u cP aa (fun k hk => (if_neg (fun (e : ob aH = some k) => cR k e hk)).trans ((if_neg (fun (e : ob a4 = some k) => cS k e hk)).trans (if_pos hk)))
  have cq := h
  obtain ⟨bT, bU, bW, rfl⟩ := a5.shape
  have h := cq
  have cr := h
  obtain ⟨bX, bY, bZ, rfl⟩ := a6.shape
  have h := cr
  have cs := h
  obtain ⟨b1, b2, b3, rfl⟩ := a7.shape
  have h := cs
  have cu := (aX.st c z).st F z
  refine WL.store (v := ag (cp ac (vl bT bU bW) (vl bX bY bZ) (vl b1 b2 b3))) (cells' := (cp ac (vl bT bU bW) (vl bX bY bZ) (vl b1 b2 b3))) ty41 z z cu z (le_ z) z z ?_
  intro aG m q
  refine nl (th (sq (sq (rg (wY (ym z) z ?_)))))
  have r := a5.st m z z z
  have t := a6.st m z z z
  have C := a7.st m z z z
  have aI := ((((b5.st o z).st j z).st c z).st F z).st m z
  have bm := ((((b4.i o z z).i j z z).i c z z).i F z z).i m z z
  obtain ⟨⟨c3, n⟩, bn, h⟩ := bnd h
  refine WL.call (vals := [pt b0 0, pt bQ 0]) kok32 z z (c_relabel_Rules_run (A := out [12, 13, 14, 15] aD) (a0 := a0) (a1 := ac) (Sl.notin (L := [12, 13, 14, 15]) bm z z) aI.blk (out_lab aI.lab z) r.row t.row C.row q.blk (ne_lab r q.lab z) (ne_lab t q.lab z) (ne_lab C q.lab z) (ne_own r t z) (ne_own r C z) (ne_own t C z) (fun k hk => ⟨out_ne q.lab z k hk, out_neV (w := aG) r.labs z k hk, out_neV (w := aG) t.labs z k hk, out_neV (w := aG) C.labs z k hk⟩) bn) ?_
  rintro cU W ⟨D, E, H, rfl, bo, cw, cx, cy, cz, cA, cC, cD⟩
  obtain ⟨S, G, T, ab⟩ := adopt aD (fun k => if ob D = some k then 13 else if ob E = some k then 14 else if ob H = some k then 15 else 1) [12, 13, 14, 15] bo (memOr (memB q.lab rfl) (memOr (memV r.labs rfl) (memOr (memV t.labs rfl) (memV C.labs rfl))))
  have aJ : OwnSl 13 rep_api_Pair 59 S W D n.Attrs := RowG.adopt flat_api_Pair r.labs cw G T (fun k hk => if_pos hk)
  have aK : OwnSl 14 Rep.u 34 S W E n.Hist.Pos.Counts := RowG.adopt Flat.u t.labs cx G T (fun k hk => (if_neg (fun (e : ob D = some k) => cA k e hk)).trans (if_pos hk))
  have aL : OwnSl 15 Rep.u 34 S W H n.Hist.Neg.Counts := RowG.adopt Flat.u C.labs cy G T (fun k hk => (if_neg (fun (e : ob D = some k) => cC k e hk)).trans ((if_neg (fun (e : ob E = some k) => cD k e hk)).trans (if_pos hk)))
  have X : Blk 12 S W bQ 41 (cp n D E H) := Blk.adopt q G cz
  refine wY (Y.geq_i z z) z (nl (th ?_))
  rcases cnd h with ⟨ae, h⟩ | ⟨ae, h⟩
  ·refine WC.condT' z ae (sq (rg (wY (yb (vals := []) (cells := [vs [], sn, vi 0, vi 0, vB false, vi 0, vi 0, vi 0, vu 0, vu 0, vi 0, vu 0, vi 0, sn, vi 0, sn, vi 0]) (fe_ z) (by kernel_rfl)) z (WL.store (v := Value.agg (List.toArray [vs [], sn, vi 0, vi 0, vB false, vi 0, vi 0, vi 0, vu 0, vu 0, vi 0, vu 0, vi 0, sn, vi 0, sn, vi 0])) (cells' := [vs [], sn, vi 0, vi 0, vB false, vi 0, vi 0, vi 0, vu 0, vu 0, vi 0, vu 0, vi 0, sn, vi 0, sn, vi 0]) ty41 z z X z (le_ z) z z ?_))))
   intro bp a8 bq
   refine wY (ya z) z (wY (ya z) z (nl (th (rt (At.thenR ?_)))))
   obtain ⟨rfl, rfl, rfl⟩ := tup3 h
   have br : Stp [12, 13, 14, 15] (Lg.O0 A) w S bp := (tr_ (su_ o z) (tr_ (su_ j z) (tr_ (su_ c z) (tr_ (su_ F z) (tr_ (su_ m z) (tr_ (su_ ab z) (su_ a8 z)))))))
   exact At.res (.inl z) z (.cell z (bq.runAg 0 [vs [], sn, vi 0, vi 0, vB false, vi 0, vi 0, vi 0, vu 0, vu 0, vi 0, vu 0, vi 0, sn, vi 0, sn, vi 0] ty41 z z z) (.tmp z (.tmp z .nil))) ⟨sn, sn, sn, z, (se_ br z z), RowF.nil, RowF.nil, RowF.nil, (fun _ e => absurd e not_nil), (fun _ e => absurd e not_nil), (fun _ e => absurd e not_nil)⟩
  ·refine WC.condF' z ae (sk (th (sq (sq (rg (wY (yL ty41 z z (X.cells 0 (cp n D E H) z) z) z ?_))))))
   obtain ⟨c4, bs, h⟩ := bnd h
   refine WL.call (vals := [ag (cp n D E H)]) kok31 z z (c_point_Check (A := fun _ => True) (a0 := n) (aJ.src.sl) (aK.src.sl) (aL.src.sl) bs) ?_
   rintro cV cW ⟨rfl, bt⟩
   obtain ⟨a9, cG, cH, p⟩ := adoptE S (fun k => 1) bt
   refine wY (ya z) z (nl (th (sq (rg (wY (ym z) z (wY (Y.neq_i z z) z (nl (th ?_))))))))
   rcases cnd h with ⟨af, h⟩ | ⟨af, h⟩
   ·refine WC.condT' z af (sq (rg (wY (yb (vals := []) (cells := [vs [], sn, vi 0, vi 0, vB false, vi 0, vi 0, vi 0, vu 0, vu 0, vi 0, vu 0, vi 0, sn, vi 0, sn, vi 0]) (fe_ z) (by kernel_rfl)) z (wY (ym z) z ?_))))
    have bu := X.st p z
    refine WL.store (v := Value.agg (List.toArray [vs [], sn, vi 0, vi 0, vB false, vi 0, vi 0, vi 0, vu 0, vu 0, vi 0, vu 0, vi 0, sn, vi 0, sn, vi 0])) (cells' := [vs [], sn, vi 0, vi 0, vB false, vi 0, vi 0, vi 0, vu 0, vu 0, vi 0, vu 0, vi 0, sn, vi 0, sn, vi 0]) ty41 z z bu z (le_ z) z z ?_
    intro bw ba bx
    refine wY (ya z) z (wY (ya z) z (nl (th (rt (At.thenR ?_)))))
    obtain ⟨rfl, rfl, rfl⟩ := tup3 h
    have bz : Stp [12, 13, 14, 15] (Lg.O0 A) w a9 bw := (tr_ (su_ o z) (tr_ (su_ j z) (tr_ (su_ c z) (tr_ (su_ F z) (tr_ (su_ m z) (tr_ (su_ ab z) (tr_ (su_ p z) (su_ ba z))))))))
    exact At.res (.inl z) z (.cell z (bx.runAg 0 [vs [], sn, vi 0, vi 0, vB false, vi 0, vi 0, vi 0, vu 0, vu 0, vi 0, vu 0, vi 0, sn, vi 0, sn, vi 0] ty41 z z z) (.tmp z (.tmp z .nil))) ⟨sn, sn, sn, z, (se_ bz z z), RowF.nil, RowF.nil, RowF.nil, (fun _ e => absurd e not_nil), (fun _ e => absurd e not_nil), (fun _ e => absurd e not_nil)⟩
   ·refine WC.condF' z af (sk (th (sq (rg (wY (yf fo41_1 z) z ?_)))))
    have aM := X.st p z
    refine wY (yl ty33 z z (aM.cell 1 _ z)) z ?_
    have bA := aJ.st p z z z
    obtain ⟨cE, bB, h⟩ := bnd h
    refine WL.call (vals := [D]) kok33 z z (c_label_Sorted (A := fun _ => True) (bA.src.sl) bB) ?_
    rintro aN bC ⟨_, rfl, bD, cF⟩
    obtain ⟨bb, cI, aS, M⟩ := adoptE a9 (fun k => if ob aN = some k then 16 else 1) bD
    have aO : OwnSl 16 rep_api_Pair 59 bb bC aN cE := RowF.adopt 16 flat_api_Pair cF aS (fun k hk => if_pos hk)
    refine wY (yf fo41_1 z) z ?_
    have bE := h
    obtain ⟨I, J, K, rfl⟩ := aO.shape
    have h := bE
    have bF := aM.st M z
    refine WL.store (v := (vl I J K)) (cells' := (cp n (vl I J K) E H)) ty33 z z bF z (le_ z) z z ?_
    intro cX P aP
    refine nl (th (sq (rg (wY (yL ty41 z z (aP.cells 0 (cp n (vl I J K) E H) z) z) z ?_))))
    have aQ := ((aK.st p z z z).st M z z z).st P z z z
    have bI := h
    obtain ⟨ah, ai, aj, rfl⟩ := aQ.shape
    have h := bI
    have aR := ((aL.st p z z z).st M z z z).st P z z z
    have bL := h
    obtain ⟨ak, al, am, rfl⟩ := aR.shape
    have h := bL
    refine WL.store (v := ag (cp n (vl I J K) (vl ah ai aj) (vl ak al am))) (cells' := (cp n (vl I J K) (vl ah ai aj) (vl ak al am))) ty41 z z aP z (le_ z) z z ?_
    intro bM Q bO
    refine wY (ya z) z (wY (ya z) z (nl (th (rt ?_))))
    obtain ⟨rfl, rfl, rfl⟩ := tup3 h
    have Z : Stp [12, 13, 14, 15] (Lg.O0 A) w bb bM := (tr_ (su_ o z) (tr_ (su_ j z) (tr_ (su_ c z) (tr_ (su_ F z) (tr_ (su_ m z) (tr_ (su_ ab z) (tr_ (su_ p z) (tr_ (su_ M z) (tr_ (su_ P z) (su_ Q z))))))))))
    have an := (aO.st P z z z).st Q z z z
    have ao := aQ.st Q z z z
    have ap := aR.st Q z z z
    exact At.res (.inl z) z (.cell z (bO.runAg 0 (cp n (vl I J K) (vl ah ai aj) (vl ak al am)) ty41 z z z) (.tmp z (.tmp z .nil))) ⟨(vl I J K), (vl ah ai aj), (vl ak al am), z, (se_ Z z z), (OwnSl.outF an Z low0 z), (OwnSl.outF ao Z low0 z), (OwnSl.outF ap Z low0 z), (ne_own an ao z), (ne_own an ap z), (ne_own ao ap z)⟩
theorem c_relabel_Rules_Stop {A : Nat → Prop} {v0_0 : Value} {a0 : relabel_Rules} {b0 : Nat} {v1_1 : Value} {v1_13 : Value} {v1_15 : Value} {a1 : api_Point} {w : World} (hs0_0 : Sl rep_relabel_rule w A v0_0 a0.l) (hb0 : w.heap[b0]? = some (.cells (List.toArray [v0_0]) 71 (0, 0))) (hm0 : A b0) (hs1_1 : Sl rep_api_Pair w A v1_1 a1.Attrs) (hs1_13 : Sl Rep.u w A v1_13 a1.Hist.Pos.Counts) (hs1_15 : Sl Rep.u w A v1_15 a1.Hist.Neg.Counts) {r0 : Int} (h : relabel_Rules_Stop a0 a1 = some r0) : Rets Tryd.prog 20 [pt b0 0, ag (cp a1 v1_1 v1_13 v1_15)] w (fun v w' => v = vi r0 ∧ Ext w w') := by
 unfold relabel_Rules_Stop at h
 refine Rets.enter Tryd.func20 z z ?_
 have aU : Sl rep_relabel_rule w (imm (Lg.O0 A)) v0_0 a0.l := (Sl.start hs0_0)
 have aW : Blk 0 (Lg.O0 A) w b0 71 [v0_0] := ⟨(if_pos hm0), hb0⟩
 have ah : Sl rep_api_Pair w (imm (Lg.O0 A)) v1_1 a1.Attrs := (Sl.start hs1_1)
 have ai : Sl Rep.u w (imm (Lg.O0 A)) v1_13 a1.Hist.Pos.Counts := (Sl.start hs1_13)
 have aj : Sl Rep.u w (imm (Lg.O0 A)) v1_15 a1.Hist.Neg.Counts := (Sl.start hs1_15)
 refine (show WC _ _ _ _ [(0, pt b0 0), (1, ag (cp a1 v1_1 v1_13 v1_15))] _ from ?_)
 refine sq (rg ?_)
 have aX := h
 obtain ⟨M, P, Q, rfl⟩ := ah.shape
 have h := aX
 have aY := h
 obtain ⟨S, T, U, rfl⟩ := ai.shape
 have h := aY
 have aZ := h
 obtain ⟨V, W, X, rfl⟩ := aj.shape
 have h := aZ
 refine WL.box (O := (Lg.O0 A)) 11 (cp a1 (vl M P Q) (vl S T U) (vl V W X)) z z z ?_
 intro bQ bt bK j ak
 refine wY (ya z) z (nl (th (sq (sq (rg (wY (yL ty41 z z (ak.cells 0 (cp a1 (vl M P Q) (vl S T U) (vl V W X)) z) z) z ?_))))))
 have al := ah.i j z z
 have am := ai.i j z z
 have an := aj.i j z z
 obtain ⟨bR, a2, h⟩ := bnd h
 refine WL.call (vals := [ag (cp a1 (vl M P Q) (vl S T U) (vl V W X))]) kok31 z z (c_point_Check (A := fun _ => True) (a0 := a1) (Sl.all al) (Sl.all am) (Sl.all an) a2) ?_
 rintro bL a3 ⟨rfl, a4⟩
 obtain ⟨aH, bu, bw, c⟩ := adoptE bt (fun k => 1) a4
 refine wY (Y.neq_i z z) z (nl (th ?_))
 rcases cnd h with ⟨Z, h⟩ | ⟨Z, h⟩
 ·refine WC.condT' z Z (sq (rg (wY (ya z) z (nl (th (rt (At.thenR ?_)))))))
  obtain rfl := some1 h
  have a5 : Stp [] (Lg.O0 A) w aH a3 := (tr_ (su_ j z) (su_ c z))
  exact At.res (.inl z) z (.tmp z .nil) ⟨z, (se_ a5 z z)⟩
 ·refine WC.condF' z Z (sk (th (sq (rg ?_))))
  have a6 := ak.st c z
  refine wY (yL ty41 z z (a6.cells 0 (cp a1 (vl M P Q) (vl S T U) (vl V W X)) z) z) z ?_
  have a7 := al.i c z z
  have a8 := am.i c z z
  have a9 := an.i c z z
  obtain ⟨H, ba, h⟩ := bnd h
  refine WL.call (vals := [ag (cp a1 (vl M P Q) (vl S T U) (vl V W X))]) kok21 z z (c_point_Clone (A := fun _ => True) (a0 := a1) (Sl.all a7) (Sl.all a8) (Sl.all a9) ba) ?_
  rintro bM aa ⟨ad, ao, aI, rfl, bb, bx, bz, bA, bB, bC, bD⟩
  obtain ⟨ae, bE, E, I⟩ := adoptE aH (fun k => if ob ad = some k then 12 else if ob ao = some k then 13 else if ob aI = some k then 14 else 1) bb
  have bc : OwnSl 12 rep_api_Pair 59 ae aa ad H.Attrs := RowF.adopt 12 flat_api_Pair bx E (fun k hk => if_pos hk)
  have bd : OwnSl 13 Rep.u 34 ae aa ao H.Hist.Pos.Counts := RowF.adopt 13 Flat.u bz E (fun k hk => (if_neg (fun (e : ob ad = some k) => bB k e hk)).trans (if_pos hk))
  have bf : OwnSl 14 Rep.u 34 ae aa aI H.Hist.Neg.Counts := RowF.adopt 14 Flat.u bA E (fun k hk => (if_neg (fun (e : ob ad = some k) => bC k e hk)).trans ((if_neg (fun (e : ob ao = some k) => bD k e hk)).trans (if_pos hk)))
  refine WL.alloc (O := ae) 15 [vs [], sn, vi 0, vi 0, vB false, vi 0, vi 0, vi 0, vu 0, vu 0, vi 0, vu 0, vi 0, sn, vi 0, sn, vi 0] ty41 z z ?_
  intro aJ aK bO m bg
  have ap := bc.st m z z z
  have bh := h
  obtain ⟨aL, aM, aN, rfl⟩ := ap.shape
  have h := bh
  have aq := bd.st m z z z
  have bi := h
  obtain ⟨aO, aP, aQ, rfl⟩ := aq.shape
  have h := bi
  have ar := bf.st m z z z
  have bj := h
  obtain ⟨aR, aS, aT, rfl⟩ := ar.shape
  have h := bj
  refine WL.store (v := ag (cp H (vl aL aM aN) (vl aO aP aQ) (vl aR aS aT))) (cells' := (cp H (vl aL aM aN) (vl aO aP aQ) (vl aR aS aT))) ty41 z z bg z (le_ z) z z ?_
  intro ab n p
  refine nl (th (sq (rg (wY (ym z) z ?_))))
  have q := ap.st n z z z
  have r := aq.st n z z z
  have t := ar.st n z z z
  have af := ((((aW.st j z).st c z).st I z).st m z).st n z
  have aD := ((((aU.i j z z).i c z z).i I z z).i m z z).i n z z
  obtain ⟨⟨bP, J⟩, aE, h⟩ := bnd h
  refine WL.call (vals := [pt b0 0, pt aJ 0]) kok32 z z (c_relabel_Rules_run (A := out [15, 12, 13, 14] aK) (a0 := a0) (a1 := H) (Sl.notin (L := [15, 12, 13, 14]) aD z z) af.blk (out_lab af.lab z) q.row r.row t.row p.blk (ne_lab q p.lab z) (ne_lab r p.lab z) (ne_lab t p.lab z) (ne_own q r z) (ne_own q t z) (ne_own r t z) (fun k hk => ⟨out_ne p.lab z k hk, out_neV (w := ab) q.labs z k hk, out_neV (w := ab) r.labs z k hk, out_neV (w := ab) t.labs z k hk⟩) aE) ?_
  rintro bF C ⟨F, K, ac, rfl, aF, bm, bn, bo, bp, bq, br, bs⟩
  obtain ⟨G, o, D, au⟩ := adopt aK (fun k => if ob F = some k then 12 else if ob K = some k then 13 else if ob ac = some k then 14 else 1) [15, 12, 13, 14] aF (memOr (memB p.lab rfl) (memOr (memV q.labs rfl) (memOr (memV r.labs rfl) (memV t.labs rfl))))
  have bG : OwnSl 12 rep_api_Pair 59 G C F J.Attrs := RowG.adopt flat_api_Pair q.labs bm o D (fun k hk => if_pos hk)
  have bH : OwnSl 13 Rep.u 34 G C K J.Hist.Pos.Counts := RowG.adopt Flat.u r.labs bn o D (fun k hk => (if_neg (fun (e : ob F = some k) => bq k e hk)).trans (if_pos hk))
  have bI : OwnSl 14 Rep.u 34 G C ac J.Hist.Neg.Counts := RowG.adopt Flat.u t.labs bo o D (fun k hk => (if_neg (fun (e : ob F = some k) => br k e hk)).trans ((if_neg (fun (e : ob K = some k) => bs k e hk)).trans (if_pos hk)))
  have bJ : Blk 15 G C aJ 41 (cp J F K ac) := Blk.adopt p o bp
  refine wY (ya z) z (nl (th (rt ?_)))
  obtain rfl := some1 h
  have aG : Stp [12, 13, 14, 15] (Lg.O0 A) w G C := (tr_ (su_ j z) (tr_ (su_ c z) (tr_ (su_ I z) (tr_ (su_ m z) (tr_ (su_ n z) (su_ au z))))))
  exact At.res (.inl z) z (.tmp z .nil) ⟨z, (se_ aG z z)⟩
theorem c_law33_awake {A : Nat → Prop} {w : World} (hG0 : CellsAt w 0 0 [vi 0, vi 0]) (hGA0 : A 0) {r0 : Bool} (h : law33_awake = some r0) : Rets Tryd.prog 7 [] w (fun v w' => v = vB r0 ∧ Ext w w') := by
 unfold law33_awake at h
 refine Rets.enter Tryd.func7 z z ?_
 have ck : CAt [0, 1] (Lg.O0 A) w 0 0 [vi 0, vi 0] := CAt.glob hG0 (if_pos hGA0)
 refine (show WC _ _ _ _ [] _ from ?_)
 refine sq (rg (wY (ya z) z (nl (th (sq (rg (wY (yb (vals := [(0, vi 2), (2, vs [116, 109, 112, 46, 42])]) (cells := [vi 2, vs [], vs [116, 109, 112, 46, 42], vs [], vs []]) (fe_ z) (by kernel_rfl)) z (wY (yb (vals := [(0, vi 3), (2, vs [42]), (3, vs [101, 110, 118]), (4, vs [112, 114, 111, 100])]) (cells := [vi 3, vs [], vs [42], vs [101, 110, 118], vs [112, 114, 111, 100]]) (fe_ z) (by kernel_rfl)) z (WL.buildSlice (O := (Lg.O0 A)) (R := rep_api_Rule) (vals := [(0, Value.agg (List.toArray [vi 2, vs [], vs [116, 109, 112, 46, 42], vs [], vs []])), (1, Value.agg (List.toArray [vi 3, vs [], vs [42], vs [101, 110, 118], vs [112, 114, 111, 100]]))]) 11 [vi 2, vs [], vs [116, 109, 112, 46, 42], vs [], vs [], vi 3, vs [], vs [42], vs [101, 110, 118], vs [112, 114, 111, 100]] (xs := [(api_Rule.mk 2 [] [116, 109, 112, 46, 42] [] []), (api_Rule.mk 3 [] [42] [101, 110, 118] [112, 114, 111, 100])]) (by decide) ty22 ty28 (by decide) (by decide) (fe_ z) (by kernel_rfl) z ⟨[vi 2, vs [], vs [116, 109, 112, 46, 42], vs [], vs []], [vi 3, vs [], vs [42], vs [101, 110, 118], vs [112, 114, 111, 100]], z, ⟨[vi 2], [vs [], vs [116, 109, 112, 46, 42], vs [], vs []], z, z, ⟨[vs []], [vs [116, 109, 112, 46, 42], vs [], vs []], z, z, ⟨[vs [116, 109, 112, 46, 42]], [vs [], vs []], z, z, ⟨[vs []], [vs []], z, z, z⟩⟩⟩⟩, ⟨[vi 3, vs [], vs [42], vs [101, 110, 118], vs [112, 114, 111, 100]], [], z, ⟨[vi 3], [vs [], vs [42], vs [101, 110, 118], vs [112, 114, 111, 100]], z, z, ⟨[vs []], [vs [42], vs [101, 110, 118], vs [112, 114, 111, 100]], z, z, ⟨[vs [42]], [vs [101, 110, 118], vs [112, 114, 111, 100]], z, z, ⟨[vs [101, 110, 118]], [vs [112, 114, 111, 100]], z, z, z⟩⟩⟩⟩, z⟩⟩ z ?_)))))))))
 intro c5 c6 dB W cl
 have aK := ck.st W z
 obtain ⟨⟨C, dJ, D⟩, cm, h⟩ := bnd h
 refine WL.call (vals := [c5]) kok11 z z (c_relabel_Compile (A := fun _ => True) (cl.src.sl) aK.at_ trivial cm) ?_
 rintro dC aL ⟨T, rfl, cn, cg⟩
 obtain ⟨aM, c7, aq, X⟩ := adoptE c6 (labP T 12) cn
 refine wY (ym z) z (wY (yx z z) z (wY (yx z z) z (wY (yx z z) z (wY (ya z) z (wY (ya z) z (wY (ya z) z (nl (th (sq ?_)))))))))
 refine rg (wY (yb (vals := [(0, vi 1), (2, vs [42])]) (cells := [vi 1, vs [], vs [42], vs [], vs []]) (fe_ z) (by kernel_rfl)) z (wY (yb (vals := [(0, vi 1), (2, vs [91])]) (cells := [vi 1, vs [], vs [91], vs [], vs []]) (fe_ z) (by kernel_rfl)) z (WL.buildSlice (O := aM) (R := rep_api_Rule) (vals := [(0, Value.agg (List.toArray [vi 1, vs [], vs [42], vs [], vs []])), (1, Value.agg (List.toArray [vi 1, vs [], vs [91], vs [], vs []]))]) 13 [vi 1, vs [], vs [42], vs [], vs [], vi 1, vs [], vs [91], vs [], vs []] (xs := [(api_Rule.mk 1 [] [42] [] []), (api_Rule.mk 1 [] [91] [] [])]) (by decide) ty22 ty28 (by decide) (by decide) (fe_ z) (by kernel_rfl) z ⟨[vi 1, vs [], vs [42], vs [], vs []], [vi 1, vs [], vs [91], vs [], vs []], z, ⟨[vi 1], [vs [], vs [42], vs [], vs []], z, z, ⟨[vs []], [vs [42], vs [], vs []], z, z, ⟨[vs [42]], [vs [], vs []], z, z, ⟨[vs []], [vs []], z, z, z⟩⟩⟩⟩, ⟨[vi 1, vs [], vs [91], vs [], vs []], [], z, ⟨[vi 1], [vs [], vs [91], vs [], vs []], z, z, ⟨[vs []], [vs [91], vs [], vs []], z, z, ⟨[vs [91]], [vs [], vs []], z, z, ⟨[vs []], [vs []], z, z, z⟩⟩⟩⟩, z⟩⟩ z ?_)))
 intro c8 c9 dD r co
 have cr := (aK.st X z).st r z
 obtain ⟨⟨dK, H, P⟩, cs, h⟩ := bnd h
 refine WL.call (vals := [c8]) kok11 z z (c_relabel_Compile (A := fun _ => True) (co.src.sl) cr.at_ trivial cs) ?_
 rintro dE Z ⟨da, rfl, ct, dL⟩
 obtain ⟨aN, db, dc, F⟩ := adoptE c9 (labP da 14) ct
 refine wY (ym z) z (wY (yx z z) z (wY (yx z z) z (wY (yx z z) z (wY (ya z) z (wY (ya z) z (wY (ya z) z (nl (th (sq ?_)))))))))
 refine sq (rg (wY (ym z) z (wY (Y.eql_opt ty29.u z z cg (fun d hd => by obtain ⟨_, _, e, _⟩ := hd; exact ⟨_, e⟩)) z (wY (ym z) z ?_))))
 refine WL.cut 3 (σ := Unit) (fun _ w' => Z = w') (fun _ => [(1, T), (5, vi H), (6, vi P), (34, vB (C.isNone || (!decide (D = 0))))]) ?_ ?_
 ·refine WL.part 31 z (fun av => ?_) (fun av => ?_)
  ·refine WL.gS z z z z (WL.gS z z z z (wY (Y.pick (b := true) z z) z (WL.ren (v' := vB (C.isNone || (!decide (D = 0)))) 34 z (congrArg vB (orT av)) ?_)))
   exact nl (At.join () z (.cons z (.cons z (.cons z (.cons z .nil)))))
  ·refine ug z z (wY (ym z) z (ug z z (wY (Y.neq_i z z) z (wY (Y.pick (b := false) z z) z (WL.ren (v' := vB (C.isNone || (!decide (D = 0)))) 34 z (congrArg vB (orF av)) ?_)))))
   exact nl (At.join () z (.cons z (.cons z (.cons z (.cons z .nil)))))
 ·rintro _ _ rfl
  refine (show WL _ _ _ _ _ [(1, T), (5, vi H), (6, vi P), (34, vB (C.isNone || (!decide (D = 0))))] _ from ?_)
  refine wY (ym z) z ?_
  refine WL.cut 3 (σ := Unit) (fun _ w' => Z = w') (fun _ => [(1, T), (6, vi P), (38, vB ((C.isNone || (!decide (D = 0))) || (!decide (H = 1))))]) ?_ ?_
  ·refine WL.part 35 z (fun ax => ?_) (fun ax => ?_)
   ·refine WL.gS z z z z (WL.gS z z z z (wY (Y.pick (b := true) z z) z (WL.ren (v' := vB ((C.isNone || (!decide (D = 0))) || (!decide (H = 1)))) 38 z (congrArg vB (orT ax)) ?_)))
    exact nl (At.join () z (.cons z (.cons z (.cons z .nil))))
   ·refine ug z z (wY (ym z) z (ug z z (wY (Y.neq_i z z) z (wY (Y.pick (b := false) z z) z (WL.ren (v' := vB ((C.isNone || (!decide (D = 0))) || (!decide (H = 1)))) 38 z (congrArg vB (orF ax)) ?_)))))
    exact nl (At.join () z (.cons z (.cons z (.cons z .nil))))
  ·rintro _ _ rfl
   refine (show WL _ _ _ _ _ [(1, T), (6, vi P), (38, vB ((C.isNone || (!decide (D = 0))) || (!decide (H = 1))))] _ from ?_)
   refine wY (ym z) z ?_
   refine WL.cut 3 (σ := Unit) (fun _ w' => Z = w') (fun _ => [(1, T), (42, vB (((C.isNone || (!decide (D = 0))) || (!decide (H = 1))) || (!decide (P = 2))))]) ?_ ?_
   ·refine WL.part 39 z (fun ay => ?_) (fun ay => ?_)
    ·refine WL.gS z z z z (WL.gS z z z z (wY (Y.pick (b := true) z z) z (WL.ren (v' := vB (((C.isNone || (!decide (D = 0))) || (!decide (H = 1))) || (!decide (P = 2)))) 42 z (congrArg vB (orT ay)) ?_)))
     exact nl (At.join () z (.cons z (.cons z .nil)))
    ·refine ug z z (wY (ym z) z (ug z z (wY (Y.neq_i z z) z (wY (Y.pick (b := false) z z) z (WL.ren (v' := vB (((C.isNone || (!decide (D = 0))) || (!decide (H = 1))) || (!decide (P = 2)))) 42 z (congrArg vB (orF ay)) ?_)))))
     exact nl (At.join () z (.cons z (.cons z .nil)))
   ·rintro _ _ rfl
    refine (show WL _ _ _ _ _ [(1, T), (42, vB (((C.isNone || (!decide (D = 0))) || (!decide (H = 1))) || (!decide (P = 2))))] _ from ?_)
    refine wY (ym z) z ?_
    obtain ⟨ar, cu, h⟩ := bnd h
    obtain ⟨m, ch, rfl, cw, dd⟩ := OptP.some cg cu
    have aO : Sl rep_relabel_rule aL (frs aM) ch ar.l := Sl.adoptF dd (fun k hk => ⟨hk.1, labP_ne hk.2⟩) aq
    have aP : Blk 12 aM aL m 71 [ch] := Blk.new cw aq (labP_at m 12)
    obtain ⟨de, h, cx⟩ := bnd h
    refine WL.cut 4 (σ := (Bool × Own)) (fun x w' => x.1 = de ∧ Stp [] aN Z x.2 w') (fun x => [(1, pt m 0), (47, vB x.1)]) ?_ ?_
    ·rcases cnd h with ⟨az, h⟩ | ⟨az, h⟩
     ·refine WL.ren 43 z (congrArg vB az) (WL.gS z z z z (WL.gS z z z z (WL.gS z z z z (wY (Y.pick (b := true) z z) z ?_))))
      exact nl (At.join (σ := (Bool × Own)) (true, aN) ⟨some1 h, (sr_ _ _ _)⟩ (.cons z (.cons z .nil)))
     ·refine WL.ren 43 z (congrArg vB az) (ug z z (wY (ym z) z (ug z z ?_)))
      have cz := (aP.st r z).st F z
      have cC := (aO.f r z).f F z
      obtain ⟨df, cD, h⟩ := bnd h
      refine WL.call (vals := [pt m 0]) kok12 z z (c_relabel_Rules_Len (A := fun _ => True) (a0 := ar) (Sl.all cC) cz.blk trivial cD) ?_
      rintro dF dG ⟨rfl, cE⟩
      obtain ⟨dg, dh, di, bj⟩ := adoptE aN (fun k => 1) cE
      refine ug z z (wY (Y.neq_i z z) z (wY (Y.pick (b := false) z z) z ?_))
      exact nl (At.join (σ := (Bool × Own)) ((!decide (df = 2)), dg) ⟨some1 h, (su_ bj z)⟩ (.cons z (.cons z .nil)))
    ·rintro ⟨dj, ci⟩ cF ⟨rfl, I⟩
     replace h := cx
     try dsimp only at h I
     refine (show WL _ _ _ _ _ [(1, pt m 0), (47, vB dj)] _ from ?_)
     refine nl (th ?_)
     rcases cnd h with ⟨aA, h⟩ | ⟨aA, h⟩
     ·refine WC.condT' z aA (sq (rg (wY (ya z) z (nl (th (rt (At.thenR ?_)))))))
      obtain rfl := some1 h
      have cG : Stp [] (Lg.O0 A) w ci cF := (tr_ (su_ W z) (tr_ (su_ X z) (tr_ (su_ r z) (tr_ (su_ F z) (su_ I z)))))
      exact At.res (.inl z) z (.tmp z .nil) ⟨z, (se_ cG z z)⟩
     ·refine WC.condF' z aA (sk (th (sq (rg (wY (ym z) z (wY (yb (vals := [(0, vs [97]), (2, vi 3)]) (cells := [vs [97], sn, vi 3, vi 0, vB false, vi 0, vi 0, vi 0, vu 0, vu 0, vi 0, vu 0, vi 0, sn, vi 0, sn, vi 0]) (fe_ z) (by kernel_rfl)) z ?_))))))
      have aQ := ((aP.st r z).st F z).st I z
      have aR := ((aO.f r z).f F z).f I z
      obtain ⟨⟨J, Q, S⟩, cL, h⟩ := bnd h
      refine WL.call (vals := [pt m 0, Value.agg (List.toArray [vs [97], sn, vi 3, vi 0, vB false, vi 0, vi 0, vi 0, vu 0, vu 0, vi 0, vu 0, vi 0, sn, vi 0, sn, vi 0])]) kok14 z z (c_relabel_Rules_Apply (A := fun _ => True) (a0 := ar) (a1 := (api_Point.mk [97] [] 3 0 false 0 0 0 0 0 (api_Hist.mk 0 0 (api_Side.mk 0 []) (api_Side.mk 0 [])) 0)) (Sl.all aR) aQ.blk trivial (Or.inl ⟨z, z⟩) (Or.inl ⟨z, z⟩) (Or.inl ⟨z, z⟩) cL) ?_
      rintro dr aa ⟨aE, aS, cj, rfl, bk, dk, dl, dm, dn, cM, cN⟩
      obtain ⟨ab, c1, K, U⟩ := adoptE ci (fun k => if ob aE = some k then 15 else if ob aS = some k then 16 else if ob cj = some k then 17 else 1) bk
      have bl : OwnSl 15 rep_api_Pair 59 ab aa aE J.Attrs := RowF.adopt 15 flat_api_Pair dk K (fun k hk => if_pos hk)
      have bm : OwnSl 16 Rep.u 34 ab aa aS J.Hist.Pos.Counts := RowF.adopt 16 Flat.u dl K (fun k hk => (if_neg (fun (e : ob aE = some k) => dn k e hk)).trans (if_pos hk))
      have bn : OwnSl 17 Rep.u 34 ab aa cj J.Hist.Neg.Counts := RowF.adopt 17 Flat.u dm K (fun k hk => (if_neg (fun (e : ob aE = some k) => cM k e hk)).trans ((if_neg (fun (e : ob aS = some k) => cN k e hk)).trans (if_pos hk)))
      refine wY (ym z) z (wY (yx z z) z (wY (yx z z) z (wY (yx z z) z (WL.alloc (O := ab) 18 [vs [], sn, vi 0, vi 0, vB false, vi 0, vi 0, vi 0, vu 0, vu 0, vi 0, vu 0, vi 0, sn, vi 0, sn, vi 0] ty41 z z ?_))))
      intro ac cO ds q bo
      have ad := bl.st q z z z
      have bp := h
      obtain ⟨aT, aU, aW, rfl⟩ := ad.shape
      have h := bp
      have bq := bm.st q z z z
      have br := h
      obtain ⟨aX, aY, aZ, rfl⟩ := bq.shape
      have h := br
      have bs := bn.st q z z z
      have bt := h
      obtain ⟨a2, a3, a4, rfl⟩ := bs.shape
      have h := bt
      refine WL.store (v := ag (cp J (vl aT aU aW) (vl aX aY aZ) (vl a2 a3 a4))) (cells' := (cp J (vl aT aU aW) (vl aX aY aZ) (vl a2 a3 a4))) ty41 z z bo z (le_ z) z z ?_
      intro dt E aF
      refine wY (ya z) z (wY (ya z) z (nl (th (sq (rg (wY (ym z) z (wY (yb (vals := [(0, vs [116, 109, 112, 46, 97]), (2, vi 3)]) (cells := [vs [116, 109, 112, 46, 97], sn, vi 3, vi 0, vB false, vi 0, vi 0, vi 0, vu 0, vu 0, vi 0, vu 0, vi 0, sn, vi 0, sn, vi 0]) (fe_ z) (by kernel_rfl)) z ?_)))))))
      have aG := ((aQ.st U z).st q z).st E z
      have aH := ((aR.f U z).f q z).f E z
      obtain ⟨⟨V, j, n⟩, bA, h⟩ := bnd h
      refine WL.call (vals := [pt m 0, Value.agg (List.toArray [vs [116, 109, 112, 46, 97], sn, vi 3, vi 0, vB false, vi 0, vi 0, vi 0, vu 0, vu 0, vi 0, vu 0, vi 0, sn, vi 0, sn, vi 0])]) kok14 z z (c_relabel_Rules_Apply (A := fun _ => True) (a0 := ar) (a1 := (api_Point.mk [116, 109, 112, 46, 97] [] 3 0 false 0 0 0 0 0 (api_Hist.mk 0 0 (api_Side.mk 0 []) (api_Side.mk 0 [])) 0)) (Sl.all aH) aG.blk trivial (Or.inl ⟨z, z⟩) (Or.inl ⟨z, z⟩) (Or.inl ⟨z, z⟩) bA) ?_
      rintro du ae ⟨af, aC, a5, rfl, bB, cP, cQ, cR, cS, cT, cU⟩
      obtain ⟨ah, c2, M, o⟩ := adoptE cO (fun k => if ob af = some k then 19 else if ob aC = some k then 20 else if ob a5 = some k then 21 else 1) bB
      have bC : OwnSl 19 rep_api_Pair 59 ah ae af V.Attrs := RowF.adopt 19 flat_api_Pair cP M (fun k hk => if_pos hk)
      have bD : OwnSl 20 Rep.u 34 ah ae aC V.Hist.Pos.Counts := RowF.adopt 20 Flat.u cQ M (fun k hk => (if_neg (fun (e : ob af = some k) => cS k e hk)).trans (if_pos hk))
      have bE : OwnSl 21 Rep.u 34 ah ae a5 V.Hist.Neg.Counts := RowF.adopt 21 Flat.u cR M (fun k hk => (if_neg (fun (e : ob af = some k) => cT k e hk)).trans ((if_neg (fun (e : ob aC = some k) => cU k e hk)).trans (if_pos hk)))
      refine wY (ym z) z (wY (yx z z) z (wY (yx z z) z (wY (yx z z) z (WL.alloc (O := ah) 22 [vs [], sn, vi 0, vi 0, vB false, vi 0, vi 0, vi 0, vu 0, vu 0, vi 0, vu 0, vi 0, sn, vi 0, sn, vi 0] ty41 z z ?_))))
      intro dH aD dw c bF
      have bG := bC.st c z z z
      have bH := h
      obtain ⟨a6, a7, a8, rfl⟩ := bG.shape
      have h := bH
      have bI := bD.st c z z z
      have bJ := h
      obtain ⟨a9, ba, bb, rfl⟩ := bI.shape
      have h := bJ
      have bK := bE.st c z z z
      have bL := h
      obtain ⟨bc, bd, bf, rfl⟩ := bK.shape
      have h := bL
      refine WL.store (v := ag (cp V (vl a6 a7 a8) (vl a9 ba bb) (vl bc bd bf))) (cells' := (cp V (vl a6 a7 a8) (vl a9 ba bb) (vl bc bd bf))) ty41 z z bF z (le_ z) z z ?_
      intro G p dx
      refine wY (ya z) z (wY (ya z) z (nl (th (sq (rg (wY (ym z) z (wY (ym z) z ?_)))))))
      refine WL.cut 3 (σ := Unit) (fun _ w' => G = w') (fun _ => [(1, pt m 0), (7, pt ac 0), (11, vB j), (12, vi n), (66, vB (Q && (decide (S = 0))))]) ?_ ?_
      ·refine WL.part 63 z (fun ai => ?_) (fun ai => ?_)
       ·refine ug z z (wY (ym z) z (ug z z (wY (Y.eql_i z z) z (wY (Y.pick (b := true) z z) z (WL.ren (v' := vB (Q && (decide (S = 0)))) 66 z (congrArg vB (andT ai)) ?_)))))
        exact nl (At.join () z (.cons z (.cons z (.cons z (.cons z (.cons z .nil))))))
       ·refine WL.gS z z z z (WL.gS z z z z (wY (Y.pick (b := false) z z) z (WL.ren (v' := vB (Q && (decide (S = 0)))) 66 z (congrArg vB (andF ai)) ?_)))
        exact nl (At.join () z (.cons z (.cons z (.cons z (.cons z (.cons z .nil))))))
      ·rintro _ _ rfl
       refine (show WL _ _ _ _ _ [(1, pt m 0), (7, pt ac 0), (11, vB j), (12, vi n), (66, vB (Q && (decide (S = 0))))] _ from ?_)
       refine wY (ym z) z ?_
       refine WL.cut 5 (σ := Unit) (fun _ w' => G = w') (fun _ => [(1, pt m 0), (7, pt ac 0), (11, vB j), (12, vi n), (72, vB ((Q && (decide (S = 0))) && (decide ((J.Attrs.length : Int) = 1))))]) ?_ ?_
       ·refine WL.part 67 z (fun aj => ?_) (fun aj => ?_)
        ·refine ug z z (wY (yf fo41_1 z) z (ug z z ?_))
         have bP := ((aF.st o z).st c z).st p z
         refine wY (yl ty33 z z (bP.cell 1 _ z)) z (ug z z ?_)
         have bT := (((ad.st E z z z).st o z z z).st c z z z).st p z z z
         refine wY (Y.len ty33 z bT.src.sl) z (ug z z (wY (Y.eql_i z z) z (wY (Y.pick (b := true) z z) z (WL.ren (v' := vB ((Q && (decide (S = 0))) && (decide ((J.Attrs.length : Int) = 1)))) 72 z (congrArg vB (andT aj)) ?_))))
         exact nl (At.join () z (.cons z (.cons z (.cons z (.cons z (.cons z .nil))))))
        ·refine WL.gS z z z z (WL.gS z z z z (WL.gS z z z z (WL.gS z z z z (wY (Y.pick (b := false) z z) z (WL.ren (v' := vB ((Q && (decide (S = 0))) && (decide ((J.Attrs.length : Int) = 1)))) 72 z (congrArg vB (andF aj)) ?_)))))
         exact nl (At.join () z (.cons z (.cons z (.cons z (.cons z (.cons z .nil))))))
       ·rintro _ _ rfl
        refine (show WL _ _ _ _ _ [(1, pt m 0), (7, pt ac 0), (11, vB j), (12, vi n), (72, vB ((Q && (decide (S = 0))) && (decide ((J.Attrs.length : Int) = 1))))] _ from ?_)
        refine wY (ym z) z ?_
        obtain ⟨cV, h, bU⟩ := bnd h
        refine WL.cut 7 (σ := Bool) (fun x w' => x = cV ∧ G = w') (fun x => [(1, pt m 0), (11, vB j), (12, vi n), (80, vB x)]) ?_ ?_
        ·rcases cnd h with ⟨ak, h⟩ | ⟨ak, h⟩
         ·refine WL.ren 73 z (congrArg vB ak) (ug z z (wY (yf fo41_1 z) z (ug z z ?_)))
          have bY := ((aF.st o z).st c z).st p z
          refine wY (yl ty33 z z (bY.cell 1 _ z)) z (ug z z ?_)
          obtain ⟨al, bZ, h⟩ := bnd h
          have aI := (((ad.st E z z z).st o z z z).st c z z z).st p z z z
          obtain ⟨dI, dp, dy, aJ, b3, b4, am, bg⟩ := OwnSl.at aI bZ
          obtain ⟨_, _, rfl, rfl, rfl⟩ := bg
          replace am : CellsAt _ _ _ [vs al.Key, vs al.Val] := am
          have bh := CAt.own aI aJ am
          refine wY (Y.indexAddr ty33 ty59 z aJ z b3 b4) z (ug z z (wY (yf fo59_1 z) z (ug z z (wY (yl ty9 z z (bh.at_.sub 1 [vs al.Val] z)) z (ug z z (wY (Y.eql_s (b := [112, 114, 111, 100]) z z) z (wY (Y.pick (b := true) z z) z ?_)))))))
          exact nl (At.join (σ := Bool) (decide (al.Val = [112, 114, 111, 100])) ⟨some1 h, z⟩ (.cons z (.cons z (.cons z (.cons z .nil)))))
         ·refine WL.ren 73 z (congrArg vB ak) (WL.gS z z z z (WL.gS z z z z (WL.gS z z z z (WL.gS z z z z (WL.gS z z z z (WL.gS z z z z (wY (Y.pick (b := false) z z) z ?_)))))))
          exact nl (At.join (σ := Bool) false ⟨some1 h, z⟩ (.cons z (.cons z (.cons z (.cons z .nil)))))
        ·rintro t _ ⟨rfl, rfl⟩
         replace h := bU
         try dsimp only at h
         refine (show WL _ _ _ _ _ [(1, pt m 0), (11, vB j), (12, vi n), (80, vB t)] _ from ?_)
         refine wY (ym z) z ?_
         refine WL.cut 3 (σ := Unit) (fun _ w' => G = w') (fun _ => [(1, pt m 0), (12, vi n), (84, vB (t && (!j)))]) ?_ ?_
         ·refine WL.part 81 z (fun an => ?_) (fun an => ?_)
          ·refine ug z z (wY (ym z) z (ug z z (wY (Y.not z) z (wY (Y.pick (b := true) z z) z (WL.ren (v' := vB (t && (!j))) 84 z (congrArg vB (andT an)) ?_)))))
           exact nl (At.join () z (.cons z (.cons z (.cons z .nil))))
          ·refine WL.gS z z z z (WL.gS z z z z (wY (Y.pick (b := false) z z) z (WL.ren (v' := vB (t && (!j))) 84 z (congrArg vB (andF an)) ?_)))
           exact nl (At.join () z (.cons z (.cons z (.cons z .nil))))
         ·rintro _ _ rfl
          refine (show WL _ _ _ _ _ [(1, pt m 0), (12, vi n), (84, vB (t && (!j)))] _ from ?_)
          refine wY (ym z) z ?_
          refine WL.cut 3 (σ := Unit) (fun _ w' => G = w') (fun _ => [(1, pt m 0), (88, vB ((t && (!j)) && (decide (n = 0))))]) ?_ ?_
          ·refine WL.part 85 z (fun ao => ?_) (fun ao => ?_)
           ·refine ug z z (wY (ym z) z (ug z z (wY (Y.eql_i z z) z (wY (Y.pick (b := true) z z) z (WL.ren (v' := vB ((t && (!j)) && (decide (n = 0)))) 88 z (congrArg vB (andT ao)) ?_)))))
            exact nl (At.join () z (.cons z (.cons z .nil)))
           ·refine WL.gS z z z z (WL.gS z z z z (wY (Y.pick (b := false) z z) z (WL.ren (v' := vB ((t && (!j)) && (decide (n = 0)))) 88 z (congrArg vB (andF ao)) ?_)))
            exact nl (At.join () z (.cons z (.cons z .nil)))
          ·rintro _ _ rfl
           refine (show WL _ _ _ _ _ [(1, pt m 0), (88, vB ((t && (!j)) && (decide (n = 0))))] _ from ?_)
           refine wY (ym z) z ?_
           obtain ⟨cW, h, b5⟩ := bnd h
           refine WL.cut 5 (σ := (Bool × Own)) (fun x w' => x.1 = cW ∧ Stp [] aD G x.2 w') (fun x => [(94, vB x.1)]) ?_ ?_
           ·rcases cnd h with ⟨ap, h⟩ | ⟨ap, h⟩
            ·refine WL.ren 89 z (congrArg vB ap) (ug z z (wY (ym z) z (ug z z (wY (yb (vals := [(0, vs [116, 109, 112, 46, 97]), (2, vi 3)]) (cells := [vs [116, 109, 112, 46, 97], sn, vi 3, vi 0, vB false, vi 0, vi 0, vi 0, vu 0, vu 0, vi 0, vu 0, vi 0, sn, vi 0, sn, vi 0]) (fe_ z) (by kernel_rfl)) z (ug z z ?_)))))
             have b8 := ((aG.st o z).st c z).st p z
             have cb := ((aH.f o z).f c z).f p z
             obtain ⟨cX, cc, h⟩ := bnd h
             refine WL.call (vals := [pt m 0, Value.agg (List.toArray [vs [116, 109, 112, 46, 97], sn, vi 3, vi 0, vB false, vi 0, vi 0, vi 0, vu 0, vu 0, vi 0, vu 0, vi 0, sn, vi 0, sn, vi 0])]) kok20 z z (c_relabel_Rules_Stop (A := fun _ => True) (a0 := ar) (a1 := (api_Point.mk [116, 109, 112, 46, 97] [] 3 0 false 0 0 0 0 0 (api_Hist.mk 0 0 (api_Side.mk 0 []) (api_Side.mk 0 [])) 0)) (Sl.all cb) b8.blk trivial (Or.inl ⟨z, z⟩) (Or.inl ⟨z, z⟩) (Or.inl ⟨z, z⟩) cc) ?_
             rintro dz dA ⟨rfl, cd⟩
             obtain ⟨cY, c3, c4, bi⟩ := adoptE aD (fun k => 1) cd
             refine ug z z (wY (Y.eql_i z z) z (wY (Y.pick (b := true) z z) z ?_))
             exact nl (At.join (σ := (Bool × Own)) (decide (cX = 0), cY) ⟨some1 h, (su_ bi z)⟩ (.cons z .nil))
            ·refine WL.ren 89 z (congrArg vB ap) (WL.gS z z z z (WL.gS z z z z (WL.gS z z z z (WL.gS z z z z (wY (Y.pick (b := false) z z) z ?_)))))
             exact nl (At.join (σ := (Bool × Own)) (false, aD) ⟨some1 h, (sr_ _ _ _)⟩ (.cons z .nil))
           ·rintro ⟨cZ, c0⟩ ce ⟨rfl, au⟩
            replace h := b5
            try dsimp only at h au
            refine (show WL _ _ _ _ _ [(94, vB cZ)] _ from ?_)
            refine wY (ya z) z (nl (th (rt ?_)))
            obtain rfl := some1 h
            have cf : Stp [18, 22] (Lg.O0 A) w c0 ce := (tr_ (su_ W z) (tr_ (su_ X z) (tr_ (su_ r z) (tr_ (su_ F z) (tr_ (su_ I z) (tr_ (su_ U z) (tr_ (su_ q z) (tr_ (su_ E z) (tr_ (su_ o z) (tr_ (su_ c z) (tr_ (su_ p z) (su_ au z))))))))))))
            exact At.res (.inl z) z (.tmp z .nil) ⟨z, (se_ cf z z)⟩
theorem c_ref33_Few {A : Nat → Prop} {a0 : List api_Rule} {v0 : Value} {w : World} (hs0 : Sl rep_api_Rule w A v0 a0) {r0 : Bool} (h : ref33_Few a0 = some r0) : Rets Tryd.prog 8 [v0] w (fun v w' => v = vB r0 ∧ Ext w w') := by
 unfold ref33_Few at h
 refine Rets.enter Tryd.func8 z z ?_
 have c : Sl rep_api_Rule w (imm (Lg.O0 A)) v0 a0 := (Sl.start hs0)
 refine (show WC _ _ _ _ [(0, v0)] _ from ?_)
 refine sq (rg (wY (ya z) z (nl (th (sq (sq (rg (wY (ym z) z (wY (Y.len ty22 z c) z ?_)))))))))
 refine wY (Y.gtr_i z z) z (nl (th ?_))
 rcases cnd h with ⟨q, h⟩ | ⟨q, h⟩
 ·refine WC.condT' z q (sq (rg (wY (ya z) z (nl (th (rt (At.thenR ?_)))))))
  obtain rfl := some1 h
  have aa : Stp [] (Lg.O0 A) w (Lg.O0 A) w := (sr_ _ _ _)
  exact At.res (.inl z) z (.tmp z .nil) ⟨z, (se_ aa z z)⟩
 ·refine WC.condF' z q (sk (th (sq (sq (rg (wY (ya z) z (nl (th (WC.block ?_)))))))))
  obtain ⟨X, h, K⟩ := flow1 h
  obtain ⟨Z, h⟩ := loop_some h
  refine WC.joinB 0 (σ := Unit) (fun x w' => X = .go () ∧ w = w') (fun x => []) ?_ ?_
  ·refine WC.loop (σ := Int) (fun x k w' => loopN k (ref33_Few_lp1 a0) x = some X ∧ w = w') (fun x => [(0, v0), (3, vi x)]) 0 Z (.cons z (.cons z .nil)) ⟨h, z⟩ ?_
   rintro j Z _ ⟨h, rfl⟩
   obtain ⟨aG, a2, rfl, h, r⟩ := rnd1 h
   unfold ref33_Few_lp1 at h
   try dsimp only at h
   refine (show WC _ _ _ _ [(0, v0), (3, vi j)] _ from ?_)
   refine sq (sq (rg (wY (ym z) z (wY (ym z) z (wY (Y.len ty22 z c) z (wY (Y.lss_i z z) z (nl (th ?_))))))))
   rcases cnd h with ⟨t, h⟩ | ⟨t, h⟩
   ·refine WC.condT' z t (sk (th (sq (WC.block (sq (rg (wY (ym z) z (wY (ym z) z ?_))))))))
    obtain ⟨p, ab, h⟩ := bnd h
    obtain ⟨a3, aO, aP, aX, ac, ad, ae, C, M, af⟩ := Sl.at2 c ab
    obtain ⟨_, _, rfl, rfl, ⟨_, _, rfl, rfl, ⟨_, _, rfl, rfl, ⟨_, _, rfl, rfl, rfl⟩⟩⟩⟩ := M
    replace C : CellsAt _ _ _ [vi p.Kind, vs p.Key, vs p.Glob, vs p.To, vs p.Val] := C
    have P := CAt.imm C af
    refine wY (Y.indexAddr ty22 ty28 z ac z ad ae) z (wY (yf fo28_2 z) z (wY (yl ty9 z z (P.at_.sub 2 [vs p.Glob] z)) z (wY (Y.len_s ty9 z) z (wY (Y.gtr_i z z) z (wY (ym z) z ?_)))))
    obtain ⟨aH, h, ah⟩ := bnd h
    refine WL.cut 8 (σ := Bool) (fun x w' => x = aH ∧ w = w') (fun x => [(0, v0), (3, vi j), (28, vB x)]) ?_ ?_
    ·rcases cnd h with ⟨D, h⟩ | ⟨D, h⟩
     ·refine WL.ren 20 z (congrArg vB D) (WL.gS z z z z (WL.gS z z z z (WL.gS z z z z (WL.gS z z z z (WL.gS z z z z (WL.gS z z z z (WL.gS z z z z (wY (Y.pick (b := true) z z) z ?_))))))))
      exact nl (At.join (σ := Bool) true ⟨some1 h, z⟩ (.cons z (.cons z (.cons z .nil))))
     ·refine WL.ren 20 z (congrArg vB D) (ug z z (wY (ym z) z (ug z z (wY (ym z) z (ug z z ?_)))))
      obtain ⟨m, ai, h⟩ := bnd h
      obtain ⟨a4, aQ, aR, aY, aj, ak, al, E, Q, am⟩ := Sl.at2 c ai
      obtain ⟨_, _, rfl, rfl, ⟨_, _, rfl, rfl, ⟨_, _, rfl, rfl, ⟨_, _, rfl, rfl, rfl⟩⟩⟩⟩ := Q
      replace E : CellsAt _ _ _ [vi m.Kind, vs m.Key, vs m.Glob, vs m.To, vs m.Val] := E
      have S := CAt.imm E am
      refine wY (Y.indexAddr ty22 ty28 z aj z ak al) z (ug z z (wY (yf fo28_1 z) z (ug z z (wY (yl ty9 z z (S.at_.sub 1 [vs m.Key] z)) z (ug z z (wY (Y.len_s ty9 z) z (ug z z (wY (Y.gtr_i z z) z (wY (Y.pick (b := false) z z) z ?_)))))))))
      exact nl (At.join (σ := Bool) (decide (100 < (m.Key.length : Int))) ⟨some1 h, z⟩ (.cons z (.cons z (.cons z .nil))))
    ·rintro aI _ ⟨rfl, rfl⟩
     replace h := ah
     try dsimp only at h
     refine (show WL _ _ _ _ _ [(0, v0), (3, vi j), (28, vB aI)] _ from ?_)
     refine wY (ym z) z ?_
     obtain ⟨aJ, h, an⟩ := bnd h
     refine WL.cut 8 (σ := Bool) (fun x w' => x = aJ ∧ w = w') (fun x => [(0, v0), (3, vi j), (37, vB x)]) ?_ ?_
     ·rcases cnd h with ⟨F, h⟩ | ⟨F, h⟩
      ·refine WL.ren 29 z (congrArg vB F) (WL.gS z z z z (WL.gS z z z z (WL.gS z z z z (WL.gS z z z z (WL.gS z z z z (WL.gS z z z z (WL.gS z z z z (wY (Y.pick (b := true) z z) z ?_))))))))
       exact nl (At.join (σ := Bool) true ⟨some1 h, z⟩ (.cons z (.cons z (.cons z .nil))))
      ·refine WL.ren 29 z (congrArg vB F) (ug z z (wY (ym z) z (ug z z (wY (ym z) z (ug z z ?_)))))
       obtain ⟨n, ao, h⟩ := bnd h
       obtain ⟨a5, aS, aT, aZ, ap, aq, ar, G, T, au⟩ := Sl.at2 c ao
       obtain ⟨_, _, rfl, rfl, ⟨_, _, rfl, rfl, ⟨_, _, rfl, rfl, ⟨_, _, rfl, rfl, rfl⟩⟩⟩⟩ := T
       replace G : CellsAt _ _ _ [vi n.Kind, vs n.Key, vs n.Glob, vs n.To, vs n.Val] := G
       have U := CAt.imm G au
       refine wY (Y.indexAddr ty22 ty28 z ap z aq ar) z (ug z z (wY (yf fo28_3 z) z (ug z z (wY (yl ty9 z z (U.at_.sub 3 [vs n.To] z)) z (ug z z (wY (Y.len_s ty9 z) z (ug z z (wY (Y.gtr_i z z) z (wY (Y.pick (b := false) z z) z ?_)))))))))
       exact nl (At.join (σ := Bool) (decide (100 < (n.To.length : Int))) ⟨some1 h, z⟩ (.cons z (.cons z (.cons z .nil))))
     ·rintro aK _ ⟨rfl, rfl⟩
      replace h := an
      try dsimp only at h
      refine (show WL _ _ _ _ _ [(0, v0), (3, vi j), (37, vB aK)] _ from ?_)
      refine wY (ym z) z ?_
      obtain ⟨aL, h, av⟩ := bnd h
      refine WL.cut 8 (σ := Bool) (fun x w' => x = aL ∧ w = w') (fun x => [(0, v0), (3, vi j), (46, vB x)]) ?_ ?_
      ·rcases cnd h with ⟨H, h⟩ | ⟨H, h⟩
       ·refine WL.ren 38 z (congrArg vB H) (WL.gS z z z z (WL.gS z z z z (WL.gS z z z z (WL.gS z z z z (WL.gS z z z z (WL.gS z z z z (WL.gS z z z z (wY (Y.pick (b := true) z z) z ?_))))))))
        exact nl (At.join (σ := Bool) true ⟨some1 h, z⟩ (.cons z (.cons z (.cons z .nil))))
       ·refine WL.ren 38 z (congrArg vB H) (ug z z (wY (ym z) z (ug z z (wY (ym z) z (ug z z ?_)))))
        obtain ⟨o, ax, h⟩ := bnd h
        obtain ⟨a6, aU, aW, a1, ay, az, aA, I, V, aC⟩ := Sl.at2 c ax
        obtain ⟨_, _, rfl, rfl, ⟨_, _, rfl, rfl, ⟨_, _, rfl, rfl, ⟨_, _, rfl, rfl, rfl⟩⟩⟩⟩ := V
        replace I : CellsAt _ _ _ [vi o.Kind, vs o.Key, vs o.Glob, vs o.To, vs o.Val] := I
        have W := CAt.imm I aC
        refine wY (Y.indexAddr ty22 ty28 z ay z az aA) z (ug z z (wY (yf fo28_4 z) z (ug z z (wY (yl ty9 z z (W.at_.sub 4 [vs o.Val] z)) z (ug z z (wY (Y.len_s ty9 z) z (ug z z (wY (Y.gtr_i z z) z (wY (Y.pick (b := false) z z) z ?_)))))))))
        exact nl (At.join (σ := Bool) (decide (100 < (o.Val.length : Int))) ⟨some1 h, z⟩ (.cons z (.cons z (.cons z .nil))))
      ·rintro aM _ ⟨rfl, rfl⟩
       replace h := av
       try dsimp only at h
       refine (show WL _ _ _ _ _ [(0, v0), (3, vi j), (46, vB aM)] _ from ?_)
       refine nl (th ?_)
       rcases cnd h with ⟨J, h⟩ | ⟨J, h⟩
       ·refine WC.condT' z J (sq (rg (wY (ya z) z (nl (th (rt (At.inBlockR (At.thenR (At.loopR ?_)))))))))
        have h := outr1 h r K
        refine At.joinBR (At.inBlockR (At.thenR ?_))
        obtain rfl := some1 h
        have aD : Stp [] (Lg.O0 A) w (Lg.O0 A) w := (sr_ _ _ _)
        exact At.res (.inl z) z (.tmp z .nil) ⟨z, (se_ aD z z)⟩
       ·refine WC.condF' z J (sk (At.inBlock (th (rg (wY (ym z) z (wY (Y.add_i z z) z ?_))))))
        obtain ⟨aN, aE, h⟩ := lt1 h
        refine WL.yE (ya z) (congrArg vi aE.symm) z (nl ?_)
        exact At.round aN aG (Nat.lt_succ_self _) ⟨next1 h r, z⟩ (.cons z (.cons z .nil))
   ·refine WC.condF' z t (WC.exit (At.thenX (At.loopX ?_)))
    exact At.hitB (σ := Unit) () ⟨brk1 h r, z⟩ .nil
  ·rintro _ _ ⟨rfl, rfl⟩
   replace h := flowK_go K
   refine (show At _ _ _ [] _ from ?_)
   refine At.inBlockHit (th (sq (rg (wY (ya z) z (nl (th (rt ?_)))))))
   obtain rfl := some1 h
   have aF : Stp [] (Lg.O0 A) w (Lg.O0 A) w := (sr_ _ _ _)
   exact At.res (.inl z) z (.tmp z .nil) ⟨z, (se_ aF z z)⟩
theorem c_ref11_Light {A : Nat → Prop} {a0 : List api_Pair} {v0 : Value} {w : World} (hs0 : Sl rep_api_Pair w A v0 a0) {r0 : Bool} (h : ref11_Light a0 = some r0) : Rets Tryd.prog 29 [v0] w (fun v w' => v = vB r0 ∧ Ext w w') := by
 unfold ref11_Light at h
 refine Rets.enter Tryd.func29 z z ?_
 have c : Sl rep_api_Pair w (imm (Lg.O0 A)) v0 a0 := (Sl.start hs0)
 refine (show WC _ _ _ _ [(0, v0)] _ from ?_)
 refine sq (rg (wY (ya z) z (nl (th (sq (sq (rg (wY (ym z) z (wY (Y.len ty33 z c) z ?_)))))))))
 refine wY (Y.gtr_i z z) z (nl (th ?_))
 rcases cnd h with ⟨j, h⟩ | ⟨j, h⟩
 ·refine WC.condT' z j (sq (rg (wY (ya z) z (nl (th (rt (At.thenR ?_)))))))
  obtain rfl := some1 h
  have M : Stp [] (Lg.O0 A) w (Lg.O0 A) w := (sr_ _ _ _)
  exact At.res (.inl z) z (.tmp z .nil) ⟨z, (se_ M z z)⟩
 ·refine WC.condF' z j (sk (th (sq (sq (rg (wY (ya z) z (nl (th (WC.block ?_)))))))))
  obtain ⟨J, h, C⟩ := flow1 h
  obtain ⟨K, h⟩ := loop_some h
  refine WC.joinB 0 (σ := Unit) (fun x w' => J = .go () ∧ w = w') (fun x => []) ?_ ?_
  ·refine WC.loop (σ := Int) (fun x k w' => loopN k (ref11_Light_lp1 a0) x = some J ∧ w = w') (fun x => [(0, v0), (3, vi x)]) 0 K (.cons z (.cons z .nil)) ⟨h, z⟩ ?_
   rintro D K _ ⟨h, rfl⟩
   obtain ⟨af, aq, rfl, h, m⟩ := rnd1 h
   unfold ref11_Light_lp1 at h
   try dsimp only at h
   refine (show WC _ _ _ _ [(0, v0), (3, vi D)] _ from ?_)
   refine sq (sq (rg (wY (ym z) z (wY (ym z) z (wY (Y.len ty33 z c) z (wY (Y.lss_i z z) z (nl (th ?_))))))))
   rcases cnd h with ⟨n, h⟩ | ⟨n, h⟩
   ·refine WC.condT' z n (sk (th (sq (WC.block (sq (rg (wY (ym z) z (wY (ym z) z ?_))))))))
    obtain ⟨E, P, h⟩ := bnd h
    obtain ⟨ar, ak, al, ao, Q, S, T, o, F, U⟩ := Sl.at2 c P
    obtain ⟨_, _, rfl, rfl, rfl⟩ := F
    replace o : CellsAt _ _ _ [vs E.Key, vs E.Val] := o
    have G := CAt.imm o U
    refine wY (Y.indexAddr ty33 ty59 z Q z S T) z (wY (yf fo59_0 z) z (wY (yl ty9 z z (G.at_.sub 0 [vs E.Key] z)) z (wY (Y.len_s ty9 z) z (wY (Y.gtr_i z z) z (wY (ym z) z ?_)))))
    obtain ⟨ah, h, V⟩ := bnd h
    refine WL.cut 8 (σ := Bool) (fun x w' => x = ah ∧ w = w') (fun x => [(0, v0), (3, vi D), (28, vB x)]) ?_ ?_
    ·rcases cnd h with ⟨p, h⟩ | ⟨p, h⟩
     ·refine WL.ren 20 z (congrArg vB p) (WL.gS z z z z (WL.gS z z z z (WL.gS z z z z (WL.gS z z z z (WL.gS z z z z (WL.gS z z z z (WL.gS z z z z (wY (Y.pick (b := true) z z) z ?_))))))))
      exact nl (At.join (σ := Bool) true ⟨some1 h, z⟩ (.cons z (.cons z (.cons z .nil))))
     ·refine WL.ren 20 z (congrArg vB p) (ug z z (wY (ym z) z (ug z z (wY (ym z) z (ug z z ?_)))))
      obtain ⟨t, W, h⟩ := bnd h
      obtain ⟨au, am, an, ap, X, Z, aa, q, H, ab⟩ := Sl.at2 c W
      obtain ⟨_, _, rfl, rfl, rfl⟩ := H
      replace q : CellsAt _ _ _ [vs t.Key, vs t.Val] := q
      have I := CAt.imm q ab
      refine wY (Y.indexAddr ty33 ty59 z X z Z aa) z (ug z z (wY (yf fo59_1 z) z (ug z z (wY (yl ty9 z z (I.at_.sub 1 [vs t.Val] z)) z (ug z z (wY (Y.len_s ty9 z) z (ug z z (wY (Y.gtr_i z z) z (wY (Y.pick (b := false) z z) z ?_)))))))))
      exact nl (At.join (σ := Bool) (decide (100 < (t.Val.length : Int))) ⟨some1 h, z⟩ (.cons z (.cons z (.cons z .nil))))
    ·rintro ai _ ⟨rfl, rfl⟩
     replace h := V
     try dsimp only at h
     refine (show WL _ _ _ _ _ [(0, v0), (3, vi D), (28, vB ai)] _ from ?_)
     refine nl (th ?_)
     rcases cnd h with ⟨r, h⟩ | ⟨r, h⟩
     ·refine WC.condT' z r (sq (rg (wY (ya z) z (nl (th (rt (At.inBlockR (At.thenR (At.loopR ?_)))))))))
      have h := outr1 h m C
      refine At.joinBR (At.inBlockR (At.thenR ?_))
      obtain rfl := some1 h
      have ac : Stp [] (Lg.O0 A) w (Lg.O0 A) w := (sr_ _ _ _)
      exact At.res (.inl z) z (.tmp z .nil) ⟨z, (se_ ac z z)⟩
     ·refine WC.condF' z r (sk (At.inBlock (th (rg (wY (ym z) z (wY (Y.add_i z z) z ?_))))))
      obtain ⟨aj, ad, h⟩ := lt1 h
      refine WL.yE (ya z) (congrArg vi ad.symm) z (nl ?_)
      exact At.round aj af (Nat.lt_succ_self _) ⟨next1 h m, z⟩ (.cons z (.cons z .nil))
   ·refine WC.condF' z n (WC.exit (At.thenX (At.loopX ?_)))
    exact At.hitB (σ := Unit) () ⟨brk1 h m, z⟩ .nil
  ·rintro _ _ ⟨rfl, rfl⟩
   replace h := flowK_go C
   refine (show At _ _ _ [] _ from ?_)
   refine At.inBlockHit (th (sq (rg (wY (ya z) z (nl (th (rt ?_)))))))
   obtain rfl := some1 h
   have ae : Stp [] (Lg.O0 A) w (Lg.O0 A) w := (sr_ _ _ _)
   exact At.res (.inl z) z (.tmp z .nil) ⟨z, (se_ ae z z)⟩
theorem c_ref08_Light {A : Nat → Prop} {v0_3 : Value} {v0_5 : Value} {a0 : api_Hist} {w : World} (hs0_3 : Sl Rep.u w A v0_3 a0.Pos.Counts) (hs0_5 : Sl Rep.u w A v0_5 a0.Neg.Counts) {r0 : Bool} (h : ref08_Light a0 = some r0) : Rets Tryd.prog 30 [ag (hl a0 v0_3 v0_5)] w (fun v w' => v = vB r0 ∧ Ext w w') := by
 unfold ref08_Light at h
 refine Rets.enter Tryd.func30 z z ?_
 have m : Sl Rep.u w (imm (Lg.O0 A)) v0_3 a0.Pos.Counts := (Sl.start hs0_3)
 have n : Sl Rep.u w (imm (Lg.O0 A)) v0_5 a0.Neg.Counts := (Sl.start hs0_5)
 refine (show WC _ _ _ _ [(0, ag (hl a0 v0_3 v0_5))] _ from ?_)
 refine sq (rg ?_)
 have q := h
 obtain ⟨F, G, H, rfl⟩ := m.shape
 have h := q
 have r := h
 obtain ⟨I, J, K, rfl⟩ := n.shape
 have h := r
 refine WL.box (O := (Lg.O0 A)) 11 (hl a0 (vl F G H) (vl I J K)) z z z ?_
 intro P M o c p
 refine wY (ya z) z (nl (th (sq (rg (wY (yf fo39_2 z) z (wY (yf fo37_1 z) z (wY (yl ty35 z z (p.cell 3 _ z)) z ?_)))))))
 have t := m.i c z z
 refine wY (Y.len ty35 z t) z (wY (Y.leq_i z z) z (wY (ym z) z ?_))
 refine WL.cut 6 (σ := Unit) (fun _ w' => o = w') (fun _ => [(14, vB ((decide ((a0.Pos.Counts.length : Int) ≤ 300)) && (decide ((a0.Neg.Counts.length : Int) ≤ 300))))]) ?_ ?_
 ·refine WL.part 8 z (fun j => ?_) (fun j => ?_)
  ·refine ug z z (wY (yf fo39_3 z) z (ug z z (wY (yf fo37_1 z) z (ug z z (wY (yl ty35 z z (p.cell 5 _ z)) z (ug z z ?_))))))
   have C := n.i c z z
   refine wY (Y.len ty35 z C) z (ug z z (wY (Y.leq_i z z) z (wY (Y.pick (b := true) z z) z (WL.ren (v' := vB ((decide ((a0.Pos.Counts.length : Int) ≤ 300)) && (decide ((a0.Neg.Counts.length : Int) ≤ 300)))) 14 z (congrArg vB (andT j)) ?_))))
   exact nl (At.join () z (.cons z .nil))
  ·refine WL.gS z z z z (WL.gS z z z z (WL.gS z z z z (WL.gS z z z z (WL.gS z z z z (wY (Y.pick (b := false) z z) z (WL.ren (v' := vB ((decide ((a0.Pos.Counts.length : Int) ≤ 300)) && (decide ((a0.Neg.Counts.length : Int) ≤ 300)))) 14 z (congrArg vB (andF j)) ?_))))))
   exact nl (At.join () z (.cons z .nil))
 ·rintro _ _ rfl
  refine (show WL _ _ _ _ _ [(14, vB ((decide ((a0.Pos.Counts.length : Int) ≤ 300)) && (decide ((a0.Neg.Counts.length : Int) ≤ 300))))] _ from ?_)
  obtain ⟨Q, D, h⟩ := lt1 h
  refine WL.yE (ya z) (congrArg vB D.symm) z (nl (th (rt ?_)))
  obtain rfl := some1 h
  have E : Stp [] (Lg.O0 A) w M o := (su_ c z)
  exact At.res (.inl z) z (.tmp z .nil) ⟨z, (se_ E z z)⟩
theorem c_ref12_Light {A : Nat → Prop} {v0_1 : Value} {v0_13 : Value} {v0_15 : Value} {a0 : api_Point} {w : World} (hs0_1 : Sl rep_api_Pair w A v0_1 a0.Attrs) (hs0_13 : Sl Rep.u w A v0_13 a0.Hist.Pos.Counts) (hs0_15 : Sl Rep.u w A v0_15 a0.Hist.Neg.Counts) {r0 : Bool} (h : ref12_Light a0 = some r0) : Rets Tryd.prog 13 [ag (cp a0 v0_1 v0_13 v0_15)] w (fun v w' => v = vB r0 ∧ Ext w w') := by
 unfold ref12_Light at h
 refine Rets.enter Tryd.func13 z z ?_
 have q : Sl rep_api_Pair w (imm (Lg.O0 A)) v0_1 a0.Attrs := (Sl.start hs0_1)
 have r : Sl Rep.u w (imm (Lg.O0 A)) v0_13 a0.Hist.Pos.Counts := (Sl.start hs0_13)
 have t : Sl Rep.u w (imm (Lg.O0 A)) v0_15 a0.Hist.Neg.Counts := (Sl.start hs0_15)
 refine (show WC _ _ _ _ [(0, ag (cp a0 v0_1 v0_13 v0_15))] _ from ?_)
 refine sq (rg ?_)
 have U := h
 obtain ⟨P, Q, S, rfl⟩ := q.shape
 have h := U
 have V := h
 obtain ⟨C, D, E, rfl⟩ := r.shape
 have h := V
 have W := h
 obtain ⟨F, G, H, rfl⟩ := t.shape
 have h := W
 refine WL.box (O := (Lg.O0 A)) 11 (cp a0 (vl P Q S) (vl C D E) (vl F G H)) z z z ?_
 intro T I X j m
 refine wY (ya z) z (nl (th (sq (rg (wY (yf fo41_0 z) z (wY (yl ty9 z z (m.cell 0 _ z)) z (wY (Y.len_s ty9 z) z (wY (Y.leq_i z z) z (wY (ym z) z ?_)))))))))
 obtain ⟨ap, h, Z⟩ := bnd h
 refine WL.cut 4 (σ := (Bool × Own)) (fun x w' => x.1 = ap ∧ Stp [] I X x.2 w') (fun x => [(1, pt T 0), (11, vB x.1)]) ?_ ?_
 ·rcases cnd h with ⟨n, h⟩ | ⟨n, h⟩
  ·refine WL.ren 7 z (congrArg vB n) (ug z z (wY (yf fo41_1 z) z (ug z z (wY (yl ty33 z z (m.cell 1 _ z)) z (ug z z ?_)))))
   have aa := q.i j z z
   obtain ⟨aq, ab, h⟩ := bnd h
   refine WL.call (vals := [(vl P Q S)]) kok29 z z (c_ref11_Light (A := fun _ => True) (Sl.all aa) ab) ?_
   rintro aG aH ⟨rfl, ac⟩
   obtain ⟨ar, au, av, K⟩ := adoptE I (fun k => 1) ac
   refine wY (Y.pick (b := true) z z) z ?_
   exact nl (At.join (σ := (Bool × Own)) (aq, ar) ⟨some1 h, (su_ K z)⟩ (.cons z (.cons z .nil)))
  ·refine WL.ren 7 z (congrArg vB n) (WL.gS z z z z (WL.gS z z z z (WL.gS z z z z (wY (Y.pick (b := false) z z) z ?_))))
   exact nl (At.join (σ := (Bool × Own)) (false, I) ⟨some1 h, (sr_ _ _ _)⟩ (.cons z (.cons z .nil)))
 ·rintro ⟨ax, J⟩ ad ⟨rfl, c⟩
  replace h := Z
  try dsimp only at h c
  refine (show WL _ _ _ _ _ [(1, pt T 0), (11, vB ax)] _ from ?_)
  refine wY (ym z) z ?_
  obtain ⟨ay, h, ae⟩ := bnd h
  refine WL.cut 4 (σ := (Bool × Own)) (fun x w' => x.1 = ay ∧ Stp [] J ad x.2 w') (fun x => [(16, vB x.1)]) ?_ ?_
  ·rcases cnd h with ⟨o, h⟩ | ⟨o, h⟩
   ·refine WL.ren 12 z (congrArg vB o) (ug z z (wY (yf fo41_10 z) z (ug z z ?_)))
    have af := m.st c z
    refine wY (yL ty39 z z (af.cells 10 (hl a0.Hist (vl C D E) (vl F G H)) z) z) z (ug z z ?_)
    have ai := (r.i j z z).i c z z
    have ak := (t.i j z z).i c z z
    obtain ⟨az, al, h⟩ := bnd h
    refine WL.call (vals := [ag (hl a0.Hist (vl C D E) (vl F G H))]) kok30 z z (c_ref08_Light (A := fun _ => True) (a0 := a0.Hist) (Sl.all ai) (Sl.all ak) al) ?_
    rintro aI aJ ⟨rfl, am⟩
    obtain ⟨aA, aC, aD, M⟩ := adoptE J (fun k => 1) am
    refine wY (Y.pick (b := true) z z) z ?_
    exact nl (At.join (σ := (Bool × Own)) (az, aA) ⟨some1 h, (su_ M z)⟩ (.cons z .nil))
   ·refine WL.ren 12 z (congrArg vB o) (WL.gS z z z z (WL.gS z z z z (WL.gS z z z z (wY (Y.pick (b := false) z z) z ?_))))
    exact nl (At.join (σ := (Bool × Own)) (false, J) ⟨some1 h, (sr_ _ _ _)⟩ (.cons z .nil))
  ·rintro ⟨aE, aF⟩ an ⟨rfl, p⟩
   replace h := ae
   try dsimp only at h p
   refine (show WL _ _ _ _ _ [(16, vB aE)] _ from ?_)
   refine wY (ya z) z (nl (th (rt ?_)))
   obtain rfl := some1 h
   have ao : Stp [] (Lg.O0 A) w aF an := (tr_ (su_ j z) (tr_ (su_ c z) (su_ p z)))
   exact At.res (.inl z) z (.tmp z .nil) ⟨z, (se_ ao z z)⟩
theorem c_ref11_Same {A : Nat → Prop} {a0 : List api_Pair} {v0 : Value} {a1 : List api_Pair} {v1 : Value} {w : World} (hs0 : Sl rep_api_Pair w A v0 a0) (hs1 : Sl rep_api_Pair w A v1 a1) {r0 : Bool} (h : ref11_Same a0 a1 = some r0) : Rets Tryd.prog 17 [v0, v1] w (fun v w' => v = vB r0 ∧ Ext w w') := by
 unfold ref11_Same at h
 refine Rets.enter Tryd.func17 z z ?_
 have E : Sl rep_api_Pair w (imm (Lg.O0 A)) v0 a0 := (Sl.start hs0)
 have F : Sl rep_api_Pair w (imm (Lg.O0 A)) v1 a1 := (Sl.start hs1)
 refine (show WC _ _ _ _ [(0, v0), (1, v1)] _ from ?_)
 refine sq (rg (wY (ya z) z (nl (th (sq (sq (rg (wY (ym z) z (wY (Y.len ty33 z E) z ?_)))))))))
 refine wY (ym z) z (wY (Y.len ty33 z F) z (wY (Y.neq_i z z) z (nl (th ?_))))
 rcases cnd h with ⟨m, h⟩ | ⟨m, h⟩
 ·refine WC.condT' z m (sq (rg (wY (ya z) z (nl (th (rt (At.thenR ?_)))))))
  obtain rfl := some1 h
  have T : Stp [] (Lg.O0 A) w (Lg.O0 A) w := (sr_ _ _ _)
  exact At.res (.inl z) z (.tmp z .nil) ⟨z, (se_ T z z)⟩
 ·refine WC.condF' z m (sk (th (sq (sq (rg (wY (ya z) z (nl (th (WC.block ?_)))))))))
  obtain ⟨Q, h, G⟩ := flow1 h
  obtain ⟨S, h⟩ := loop_some h
  refine WC.joinB 0 (σ := Own) (fun x w' => Q = .go () ∧ Stp [] (Lg.O0 A) w x w') (fun x => []) ?_ ?_
  ·refine WC.loop (σ := (Int × Own)) (fun x k w' => loopN k (ref11_Same_lp1 a0 a1) x.1 = some Q ∧ Stp [] (Lg.O0 A) w x.2 w') (fun x => [(0, v0), (1, v1), (5, vi x.1)]) (0, (Lg.O0 A)) S (.cons z (.cons z (.cons z .nil))) ⟨h, (sr_ _ _ _)⟩ ?_
   rintro ⟨ao, t⟩ S az ⟨h, c⟩
   obtain ⟨ap, aD, rfl, h, n⟩ := rnd1 h
   unfold ref11_Same_lp1 at h
   try dsimp only at h c
   refine (show WC _ _ _ _ [(0, v0), (1, v1), (5, vi ao)] _ from ?_)
   refine sq (sq (rg (wY (ym z) z (wY (ym z) z ?_))))
   have H := E.i c z z
   refine wY (Y.len ty33 z H) z (wY (Y.lss_i z z) z (nl (th ?_)))
   rcases cnd h with ⟨o, h⟩ | ⟨o, h⟩
   ·refine WC.condT' z o (sk (th (sq (WC.block (sq (WC.draw 8 t fmix (by kernel_rfl) ?_))))))
    intro U j
    refine WS.y (ym z) z (WS.y (ym z) z ?_)
    obtain ⟨C, V, h⟩ := bnd h
    have W := H.i j z z
    obtain ⟨aE, au, av, aA, X, Z, aa, p, I, ab⟩ := Sl.at2 W V
    obtain ⟨_, _, rfl, rfl, rfl⟩ := I
    replace p : CellsAt _ _ _ [vs C.Key, vs C.Val] := p
    have J := CAt.imm p ab
    refine WS.y (Y.indexAddr ty33 ty59 z X z Z aa) z (WS.y (yL ty59 z z J.at_ z) z (WS.y (ym z) z (WS.y (ym z) z ?_)))
    obtain ⟨D, ac, h⟩ := bnd h
    have ae := (F.i c z z).i j z z
    obtain ⟨aF, ax, ay, aC, af, ah, ai, q, K, aj⟩ := Sl.at2 ae ac
    obtain ⟨_, _, rfl, rfl, rfl⟩ := K
    replace q : CellsAt _ _ _ [vs D.Key, vs D.Val] := q
    have M := CAt.imm q aj
    refine WS.y (Y.indexAddr ty33 ty59 z af z ah ai) z (WS.y (yL ty59 z z M.at_ z) z (WS.tail (wY (Y.neq_ag agok59 z z (EqF.cons (by decide) (fun w => run_part_plain w (by kernel_rfl) z) (fun w => run_part_plain w (by kernel_rfl) z) (EqV.s (a := C.Key) (b := D.Key) ty9.u) (EqF.cons (by decide) (fun w => run_part_plain w (by kernel_rfl) z) (fun w => run_part_plain w (by kernel_rfl) z) (EqV.s (a := C.Val) (b := D.Val) ty9.u) EqF.nil))) z (nl (th ?_)))))
    rcases cnd h with ⟨r, h⟩ | ⟨r, h⟩
    ·refine WC.condT' z r (sq (rg (wY (ya z) z (nl (th (rt (At.inBlockR (At.thenR (At.loopR ?_)))))))))
     have h := outr1 h n G
     refine At.joinBR (At.inBlockR (At.thenR ?_))
     obtain rfl := some1 h
     have ak : Stp [] (Lg.O0 A) w t U := (tr_ (su_ c z) (su_ j z))
     exact At.res (.inl z) z (.tmp z .nil) ⟨z, (se_ ak z z)⟩
    ·refine WC.condF' z r (sk (At.inBlock (th (rg (wY (ym z) z (wY (Y.add_i z z) z ?_))))))
     obtain ⟨aq, al, h⟩ := lt1 h
     refine WL.yE (ya z) (congrArg vi al.symm) z (nl ?_)
     exact At.round (aq, t) ap (Nat.lt_succ_self _) ⟨next1 h n, (tr_ (su_ c z) (su_ j z))⟩ (.cons z (.cons z (.cons z .nil)))
   ·refine WC.condF' z o (WC.exit (At.thenX (At.loopX ?_)))
    exact At.hitB (σ := Own) t ⟨brk1 h n, (su_ c z)⟩ .nil
  ·rintro ar am ⟨rfl, P⟩
   replace h := flowK_go G
   refine (show At _ _ _ [] _ from ?_)
   refine At.inBlockHit (th (sq (rg (wY (ya z) z (nl (th (rt ?_)))))))
   obtain rfl := some1 h
   have an : Stp [] (Lg.O0 A) w ar am := (su_ P z)
   exact At.res (.inl z) z (.tmp z .nil) ⟨z, (se_ an z z)⟩
theorem c_ref11_Sorted {A : Nat → Prop} {a0 : List api_Pair} {v0 : Value} {w : World} (hs0 : Sl rep_api_Pair w A v0 a0) {r0 : List api_Pair} (h : ref11_Sorted a0 = some r0) : Rets Tryd.prog 22 [v0] w (fun v w' => ∃ (u0 : Value), v = u0 ∧ Ext w w' ∧ RowF rep_api_Pair 59 w w' u0 r0) := by
 unfold ref11_Sorted at h
 refine Rets.enter Tryd.func22 z z ?_
 have bm : Sl rep_api_Pair w (imm (Lg.O0 A)) v0 a0 := (Sl.start hs0)
 refine (show WC _ _ _ _ [(0, v0)] _ from ?_)
 refine sq (rg (wY (ya z) z (nl (th (sq (rg (wY (ya z) z (nl (th ?_)))))))))
 refine sq (sq (rg (wY (ya z) z (nl (th (WC.block ?_))))))
 obtain ⟨bf, h, bn⟩ := flow1 h
 obtain ⟨bg, h⟩ := loop_some h
 refine WC.joinB 0 (σ := (List api_Pair × Own × Value)) (fun x w' => bf = .go x.1 ∧ Stp [11, 1001] (Lg.O0 A) w x.2.1 w' ∧ OwnSl 1002 rep_api_Pair 59 x.2.1 w' x.2.2 x.1) (fun x => [(3, x.2.2)]) ?_ ?_
 ·refine WC.loop (σ := (List api_Pair × Int × Own × Value)) (fun x k w' => loopN k (ref11_Sorted_lp1 a0) (x.1, x.2.1) = some bf ∧ Stp [11, 1001] (Lg.O0 A) w x.2.2.1 w' ∧ OwnSl 1001 rep_api_Pair 59 x.2.2.1 w' x.2.2.2 x.1) (fun x => [(0, v0), (3, x.2.2.2), (4, vi x.2.1)]) ([], 0, (Lg.O0 A), sn) bg (.cons z (.cons z (.cons z .nil))) ⟨h, (sr_ _ _ _), (OwnSl.nil 1001 rep_api_Pair 59)⟩ ?_
  rintro ⟨S, m, T, j⟩ bg K ⟨h, o, r⟩
  obtain ⟨bI, cr, rfl, h, ac⟩ := rnd1 h
  unfold ref11_Sorted_lp1 at h
  try dsimp only at h o r
  refine (show WC _ _ _ _ [(0, v0), (3, j), (4, vi m)] _ from ?_)
  refine sq (sq (rg (wY (ym z) z (wY (ym z) z ?_))))
  have M := bm.i o z z
  refine wY (Y.len ty33 z M) z (wY (Y.lss_i z z) z (nl (th ?_)))
  rcases cnd h with ⟨P, h⟩ | ⟨P, h⟩
  ·refine WC.condT' z P (sk (th (sq (WC.block (sq (rg (wY (ym z) z (wY (Y.len ty33 z r.src.sl) z ?_))))))))
   obtain ⟨bJ, bo, h⟩ := lt1 h
   refine WL.yE (ya z) (congrArg vi bo.symm) z (nl (th (sq ?_)))
   obtain ⟨bK, h, bp⟩ := bnd h
   refine WC.join (σ := (Int × Own)) (fun x w' => x.1 = bK ∧ Stp [] T K x.2 w') (fun x => [(0, v0), (3, j), (4, vi m), (5, vi x.1)]) ?_ ?_
   ·refine WC.block ?_
    obtain ⟨bh, h, bq⟩ := flow1 h
    obtain ⟨bi, h⟩ := loop_some h
    refine WC.joinB 2 (σ := (Int × Own)) (fun x w' => bh = .go x.1 ∧ Stp [] T K x.2 w') (fun x => [(0, v0), (3, j), (4, vi m), (5, vi x.1)]) ?_ ?_
    ·refine WC.loop (σ := (Int × Own)) (fun x k w' => loopN k (ref11_Sorted_lp2 a0 S m) x.1 = some bh ∧ Stp [] T K x.2 w') (fun x => [(0, v0), (3, j), (4, vi m), (5, vi x.1)]) (bJ, T) bi (.cons z (.cons z (.cons z (.cons z .nil)))) ⟨h, (sr_ _ _ _)⟩ ?_
     rintro ⟨U, V⟩ bi b8 ⟨h, n⟩
     obtain ⟨bL, cs, rfl, h, ad⟩ := rnd1 h
     unfold ref11_Sorted_lp2 at h
     try dsimp only at h n
     refine (show WC _ _ _ _ [(0, v0), (3, j), (4, vi m), (5, vi U)] _ from ?_)
     refine sq (sq (WC.drawH [] [0, 1, 2, 3, 4, 5, 6, 7, 8, 9, 10, 11, 12, 13, 14, 15] V 16 fmix z (by kernel_rfl) ?_))
     intro br p
     refine WD.y 0 z (by kernel_rfl) (fun _ _ _ => ym z) z (WD.y 1 z (by kernel_rfl) (fun _ _ _ => Y.gtr_i z z) z (WD.y 2 z (by kernel_rfl) (fun _ _ _ => ym z) z ?_))
     obtain ⟨bM, h, bs⟩ := bnd h
     refine WD.join (σ := Bool) (f' := 0) [15, 14, 13, 12, 11, 10, 9, 8, 7, 6, 5, 4, 3, 2, 1, 0] (fun x O' w' => x = bM ∧ br = w' ∧ V = O') (fun x => [(0, v0), (3, j), (4, vi m), (5, vi U), (30, vB x)]) (fun ae => ?_) ?_
     ·rcases cnd h with ⟨t, h⟩ | ⟨t, h⟩
      ·refine WD.ren 17 z (congrArg vB t) (WD.gT 3 z (by kernel_rfl) z z (fun _ _ _ => ym z) z (WD.gT 4 z (by kernel_rfl) z z (fun _ _ _ => ym z) z (WD.gT 5 z (by kernel_rfl) z z (fun _ _ _ => Y.sub_i z z) z ?_)))
       obtain ⟨W, bt, h⟩ := bnd h
       have af := (r.st n z z z).st p z z z
       obtain ⟨ct, bX, b9, ah, bw, bx, Q, ax⟩ := OwnSl.at af bt
       obtain ⟨_, _, rfl, rfl, rfl⟩ := ax
       replace Q : CellsAt _ _ _ [vs W.Key, vs W.Val] := Q
       have ay := CAt.own af ah Q
       refine WD.gT 6 z (by kernel_rfl) z z (fun _ _ _ => Y.indexAddr ty33 ty59 z ah z bw bx) z (WD.gT 7 z (by kernel_rfl) z z (fun _ _ _ => yf fo59_0 z) z (WD.gT 8 z (by kernel_rfl) z z (fun ca cu az => have aA := ay.st az z; yl ty9 z z (aA.at_.sub 0 [vs W.Key] z)) z (WD.gT 9 z (by kernel_rfl) z z (fun _ _ _ => ym z) z (WD.gT 10 z (by kernel_rfl) z z (fun _ _ _ => ym z) z ?_))))
       obtain ⟨E, aC, h⟩ := bnd h
       have aE := (M.i n z z).i p z z
       obtain ⟨cb, bO, bP, bY, aF, aG, aH, F, ai, aI⟩ := Sl.at2 aE aC
       obtain ⟨_, _, rfl, rfl, rfl⟩ := ai
       replace F : CellsAt _ _ _ [vs E.Key, vs E.Val] := F
       have aj := CAt.imm F aI
       refine WD.gT 11 z (by kernel_rfl) z z (fun _ _ _ => Y.indexAddr ty33 ty59 z aF z aG aH) z (WD.gT 12 z (by kernel_rfl) z z (fun _ _ _ => yf fo59_0 z) z (WD.gT 13 z (by kernel_rfl) z z (fun bZ cc ak => have aJ := aj.st ak z; yl ty9 z z (aJ.at_.sub 0 [vs E.Key] z)) z (WD.gT 14 z (by kernel_rfl) z z (fun _ _ _ => Y.gtr_s z z) z (WD.y 15 z (by kernel_rfl) (fun _ _ _ => Y.pick (b := true) z z) z (WD.ren 17 z (congrArg vB t.symm) ?_)))))
       exact ae (sLess E.Key W.Key) _ _ _ ⟨some1 h, z, z⟩ (.cons z (.cons z (.cons z (.cons z (.cons z .nil)))))
      ·refine WD.ren 17 z (congrArg vB t) (WD.gS 3 z (by kernel_rfl) z z z z (WD.gS 4 z (by kernel_rfl) z z z z (WD.gS 5 z (by kernel_rfl) z z z z (WD.gS 6 z (by kernel_rfl) z z z z (WD.gS 7 z (by kernel_rfl) z z z z (WD.gS 8 z (by kernel_rfl) z z z z (WD.gS 9 z (by kernel_rfl) z z z z (WD.gS 10 z (by kernel_rfl) z z z z (WD.gS 11 z (by kernel_rfl) z z z z ?_)))))))))
       refine WD.gS 12 z (by kernel_rfl) z z z z (WD.gS 13 z (by kernel_rfl) z z z z (WD.gS 14 z (by kernel_rfl) z z z z (WD.y 15 z (by kernel_rfl) (fun _ _ _ => Y.pick (b := false) z z) z (WD.ren 17 z (congrArg vB t.symm) ?_))))
       exact ae false _ _ _ ⟨some1 h, z, z⟩ (.cons z (.cons z (.cons z (.cons z (.cons z .nil)))))
     ·rintro bQ _ _ ⟨rfl, rfl, rfl⟩
      replace h := bs
      try dsimp only at h
      refine (show WD _ _ _ _ _ _ _ _ [(0, v0), (3, j), (4, vi m), (5, vi U), (30, vB bQ)] _ _ from ?_)
      refine WD.done_ (by kernel_rfl) (th ?_)
      rcases cnd h with ⟨G, h⟩ | ⟨G, h⟩
      ·refine WC.condT' z G (sk (th (WC.block (rg (wY (ym z) z (wY (Y.sub_i z z) z ?_))))))
       obtain ⟨bz, aK, h⟩ := lt1 h
       refine WL.yE (ya z) (congrArg vi aK.symm) z (nl (At.inBlock ?_))
       exact At.round (bz, V) bL (Nat.lt_succ_self _) ⟨next1 h ad, (tr_ (su_ n z) (su_ p z))⟩ (.cons z (.cons z (.cons z (.cons z .nil))))
      ·refine WC.condF' z G (WC.exit (At.thenX (At.loopX ?_)))
       exact At.hitB (σ := (Int × Own)) (U, V) ⟨brk1 h ad, (tr_ (su_ n z) (su_ p z))⟩ (.cons z (.cons z (.cons z (.cons z .nil))))
    ·rintro ⟨bj, bR⟩ cd ⟨rfl, X⟩
     replace h := flowK_go bq
     try dsimp only at h X
     refine (show At _ _ _ [(0, v0), (3, j), (4, vi m), (5, vi bj)] _ from ?_)
     refine At.inBlockHit ?_
     exact At.join (σ := (Int × Own)) (bj, bR) ⟨some1 h, (su_ X z)⟩ (.cons z (.cons z (.cons z (.cons z .nil))))
   ·rintro ⟨bk, bS⟩ bA ⟨rfl, q⟩
    replace h := bp
    try dsimp only at h q
    refine (show At _ _ _ [(0, v0), (3, j), (4, vi m), (5, vi bk)] _ from ?_)
    refine th (sq (rg (wY (ya z) z (nl (th (sq (rg (wY (ym z) z (wY (ym z) z ?_)))))))))
    refine wY (ym z) z ?_
    obtain ⟨ce, aL, h⟩ := bnd h
    have Z := r.st q z z z
    refine WL.sliceOwn ty33 ty59 z z z Z aL z ?_
    intro cf aM
    obtain ⟨b0, al, h⟩ := bnd h
    have aN := OwnSl.nil (O := bS) (w := bA) 11 rep_api_Pair 59
    refine WL.append (by decide) ty33 ty59 z (by decide) z z aN aM.src al z ?_
    intro cg bB b1 C aO
    refine wY (ya z) z (nl (th (sq (rg (wY (ym z) z (wY (ym z) z (wY (ym z) z ?_)))))))
    obtain ⟨c, aP, h⟩ := bnd h
    have aR := (M.i q z z).i C z z
    obtain ⟨ch, bT, bU, b2, aS, aT, aU, H, am, aW⟩ := Sl.at2 aR aP
    obtain ⟨_, _, rfl, rfl, rfl⟩ := am
    replace H : CellsAt _ _ _ [vs c.Key, vs c.Val] := H
    have an := CAt.imm H aW
    refine wY (Y.indexAddr ty33 ty59 z aS z aT aU) z (wY (yL ty59 z z an.at_ z) z (WL.buildSlice (O := bB) (R := rep_api_Pair) (vals := [(0, ag [vs c.Key, vs c.Val])]) 12 [vs c.Key, vs c.Val] (xs := [c]) (by decide) ty33 ty59 (by decide) (by decide) (fe_ z) (by kernel_rfl) z ⟨[vs c.Key, vs c.Val], [], z, ⟨[vs c.Key], [vs c.Val], z, z, z⟩, z⟩ z ?_))
    intro ci cj b3 D aX
    obtain ⟨b4, ao, h⟩ := bnd h
    have aY := aO.st D z z z
    refine WL.append (by decide) ty33 ty59 z (by decide) z z aY aX.src ao z ?_
    intro ck cl b5 I aZ
    refine wY (ya z) z (nl (th (rg (wY (ym z) z (wY (ym z) z (wY (ym z) z ?_))))))
    obtain ⟨cm, a1, h⟩ := bnd h
    have a4 := ((Z.st C z z z).st D z z z).st I z z z
    obtain ⟨cn, J, a5⟩ := OwnSl.giveF rfl flat_api_Pair a4
    obtain ⟨co, a6, a7⟩ := Sl.slice (ρ := [(46, j), (47, vi bk)]) (x := (.tmp 46)) (lo := (some (.tmp 47))) (hi := none) ty33 ty59 rfl rfl rfl a5 a1
    refine wY (Y.sub (.cons z (.cons z .nil)) (a6 _ _)) z ?_
    obtain ⟨a8, ap, h⟩ := bnd h
    have a9 := aZ.st J z z z
    refine WL.append (by decide) ty33 ty59 z (by decide) z z a9 (Sl.src (Sl.mono a7 frs_imm)) ap z ?_
    intro bC cq b6 aq ba
    refine wY (ya z) z (nl (At.inBlock (th (rg (wY (ym z) z (wY (Y.add_i z z) z ?_))))))
    obtain ⟨bD, bb, h⟩ := lt1 h
    refine WL.yE (ya z) (congrArg vi bb.symm) z (nl ?_)
    obtain ⟨bE, ar, bc⟩ := OwnSl.rlb 1001 rfl ba
    exact At.round (a8, bD, bE, bC) bI (Nat.lt_succ_self _) ⟨next1 h ac, (tr_ (su_ o z) (tr_ (su_ q z) (tr_ (su_ C z) (tr_ (su_ D z) (tr_ (su_ I z) (tr_ (su_ J z) (tr_ (su_ aq z) (su_ ar z)))))))), bc⟩ (.cons z (.cons z (.cons z .nil)))
  ·refine WC.condF' z P (WC.exit (At.thenX (At.loopX ?_)))
   obtain ⟨bF, au, bd⟩ := OwnSl.rlb 1002 rfl r
   exact At.hitB (σ := (List api_Pair × Own × Value)) (S, bF, j) ⟨brk1 h ac, (tr_ (su_ o z) (su_ au z)), bd⟩ (.cons z .nil)
 ·rintro ⟨b7, bW, bl⟩ bG ⟨rfl, aa, av⟩
  replace h := flowK_go bn
  try dsimp only at h aa av
  refine (show At _ _ _ [(3, bl)] _ from ?_)
  refine At.inBlockHit (th (sq (rg (wY (ym z) z (wY (ya z) z (nl (th (rt ?_))))))))
  obtain rfl := some1 h
  have ab : Stp [11, 1001] (Lg.O0 A) w bW bG := (su_ aa z)
  exact At.res (.inl z) z (.tmp z .nil) ⟨bl, z, (se_ ab z z), (OwnSl.outF av ab low0 z)⟩
theorem c_ref08_SameSide {A : Nat → Prop} {v0_1 : Value} {a0 : api_Side} {v1_1 : Value} {a1 : api_Side} {w : World} (hs0_1 : Sl Rep.u w A v0_1 a0.Counts) (hs1_1 : Sl Rep.u w A v1_1 a1.Counts) {r0 : Bool} (h : ref08_SameSide a0 a1 = some r0) : Rets Tryd.prog 61 [ag [vi a0.Offset, v0_1], ag [vi a1.Offset, v1_1]] w (fun v w' => v = vB r0 ∧ Ext w w') := by
 unfold ref08_SameSide at h
 refine Rets.enter Tryd.func61 z z ?_
 have p : Sl Rep.u w (imm (Lg.O0 A)) v0_1 a0.Counts := (Sl.start hs0_1)
 have ac : Sl Rep.u w (imm (Lg.O0 A)) v1_1 a1.Counts := (Sl.start hs1_1)
 refine (show WC _ _ _ _ [(0, ag [vi a0.Offset, v0_1]), (1, ag [vi a1.Offset, v1_1])] _ from ?_)
 refine sq (rg ?_)
 have ad := h
 obtain ⟨aN, aO, aP, rfl⟩ := p.shape
 have h := ad
 refine WL.box (O := (Lg.O0 A)) 11 [vi a0.Offset, (vl aN aO aP)] z z z ?_
 intro J aQ a7 m ae
 have q := ac.i m z z
 have af := h
 obtain ⟨aR, aS, aT, rfl⟩ := q.shape
 have h := af
 refine WL.box (O := aQ) 12 [vi a1.Offset, (vl aR aS aT)] z z z ?_
 intro K M o c r
 refine wY (ya z) z (nl (th (sq (sq (rg (wY (yf fo37_0 z) z ?_))))))
 have t := ae.st c z
 refine wY (yl ty3 z z (t.cell 0 _ z)) z (wY (yf fo37_0 z) z (wY (yl ty3 z z (r.cell 0 _ z)) z (wY (Y.neq_i z z) z (wY (ym z) z ?_))))
 refine WL.cut 8 (σ := Unit) (fun _ w' => o = w') (fun _ => [(2, pt J 0), (3, pt K 0), (19, vB ((!decide (a0.Offset = a1.Offset)) || (!decide ((a0.Counts.length : Int) = (a1.Counts.length : Int)))))]) ?_ ?_
 ·refine WL.part 11 z (fun C => ?_) (fun C => ?_)
  ·refine WL.gS z z z z (WL.gS z z z z (WL.gS z z z z (WL.gS z z z z (WL.gS z z z z (WL.gS z z z z (WL.gS z z z z (wY (Y.pick (b := true) z z) z (WL.ren (v' := vB ((!decide (a0.Offset = a1.Offset)) || (!decide ((a0.Counts.length : Int) = (a1.Counts.length : Int))))) 19 z (congrArg vB (orT C)) ?_))))))))
   exact nl (At.join () z (.cons z (.cons z (.cons z .nil))))
  ·refine ug z z (wY (yf fo37_1 z) z (ug z z (wY (yl ty35 z z (t.cell 1 _ z)) z (ug z z ?_))))
   have ai := (p.i m z z).i c z z
   refine wY (Y.len ty35 z ai) z (ug z z (wY (yf fo37_1 z) z (ug z z (wY (yl ty35 z z (r.cell 1 _ z)) z (ug z z ?_)))))
   have aj := q.i c z z
   refine wY (Y.len ty35 z aj) z (ug z z (wY (Y.neq_i z z) z (wY (Y.pick (b := false) z z) z (WL.ren (v' := vB ((!decide (a0.Offset = a1.Offset)) || (!decide ((a0.Counts.length : Int) = (a1.Counts.length : Int))))) 19 z (congrArg vB (orF C)) ?_))))
   exact nl (At.join () z (.cons z (.cons z (.cons z .nil))))
 ·rintro _ _ rfl
  refine (show WL _ _ _ _ _ [(2, pt J 0), (3, pt K 0), (19, vB ((!decide (a0.Offset = a1.Offset)) || (!decide ((a0.Counts.length : Int) = (a1.Counts.length : Int)))))] _ from ?_)
  refine nl (th ?_)
  rcases cnd h with ⟨D, h⟩ | ⟨D, h⟩
  ·refine WC.condT' z D (sq (rg (wY (ya z) z (nl (th (rt (At.thenR ?_)))))))
   obtain rfl := some1 h
   have ak : Stp [] (Lg.O0 A) w M o := (tr_ (su_ m z) (su_ c z))
   exact At.res (.inl z) z (.tmp z .nil) ⟨z, (se_ ak z z)⟩
  ·refine WC.condF' z D (sk (th (sq (sq (rg (wY (ya z) z (nl (th (WC.block ?_)))))))))
   obtain ⟨aa, h, Q⟩ := flow1 h
   obtain ⟨ab, h⟩ := loop_some h
   refine WC.joinB 0 (σ := Own) (fun x w' => aa = .go () ∧ Stp [] M o x w') (fun x => []) ?_ ?_
   ·refine WC.loop (σ := (Int × Own)) (fun x k w' => loopN k (ref08_SameSide_lp1 a0 a1) x.1 = some aa ∧ Stp [] M o x.2 w') (fun x => [(2, pt J 0), (3, pt K 0), (5, vi x.1)]) (0, M) ab (.cons z (.cons z (.cons z .nil))) ⟨h, (sr_ _ _ _)⟩ ?_
    rintro ⟨aU, P⟩ ab a8 ⟨h, j⟩
    obtain ⟨aW, bb, rfl, h, E⟩ := rnd1 h
    unfold ref08_SameSide_lp1 at h
    try dsimp only at h j
    refine (show WC _ _ _ _ [(2, pt J 0), (3, pt K 0), (5, vi aU)] _ from ?_)
    refine sq (sq (rg (wY (ym z) z (wY (yf fo37_1 z) z ?_))))
    have S := t.st j z
    refine wY (yl ty35 z z (S.cell 1 _ z)) z ?_
    have T := ((p.i m z z).i c z z).i j z z
    refine wY (Y.len ty35 z T) z (wY (Y.lss_i z z) z (nl (th ?_)))
    rcases cnd h with ⟨F, h⟩ | ⟨F, h⟩
    ·refine WC.condT' z F (sk (th (sq (WC.block (sq (WC.draw 10 P fmix (by kernel_rfl) ?_))))))
     intro an n
     refine WS.y (yf fo37_1 z) z ?_
     have ao := S.st n z
     refine WS.y (yl ty35 z z (ao.cell 1 _ z)) z (WS.y (ym z) z ?_)
     obtain ⟨aX, ap, h⟩ := bnd h
     have aq := T.i n z z
     obtain ⟨bc, a3, a4, a9, ar, au, av, G, U, ax⟩ := Sl.at2 aq ap
     obtain rfl := U
     replace G : CellsAt _ _ _ [vu aX] := G
     have V := CAt.imm G ax
     refine WS.y (Y.indexAddr ty35 ty34 z ar z au av) z (WS.y (yl ty34 z z V.at_) z (WS.y (yf fo37_1 z) z ?_))
     have az := (r.st j z).st n z
     refine WS.y (yl ty35 z z (az.cell 1 _ z)) z (WS.y (ym z) z ?_)
     obtain ⟨aY, aA, h⟩ := bnd h
     have aE := ((q.i c z z).i j z z).i n z z
     obtain ⟨bd, a5, a6, ba, aF, aG, aH, H, W, aI⟩ := Sl.at2 aE aA
     obtain rfl := W
     replace H : CellsAt _ _ _ [vu aY] := H
     have X := CAt.imm H aI
     refine WS.y (Y.indexAddr ty35 ty34 z aF z aG aH) z (WS.y (yl ty34 z z X.at_) z (WS.tail (wY (Y.neq_u z z) z (nl (th ?_)))))
     rcases cnd h with ⟨I, h⟩ | ⟨I, h⟩
     ·refine WC.condT' z I (sq (rg (wY (ya z) z (nl (th (rt (At.inBlockR (At.thenR (At.loopR ?_)))))))))
      have h := outr1 h E Q
      refine At.joinBR (At.inBlockR (At.thenR ?_))
      obtain rfl := some1 h
      have aJ : Stp [] (Lg.O0 A) w P an := (tr_ (su_ m z) (tr_ (su_ c z) (tr_ (su_ j z) (su_ n z))))
      exact At.res (.inl z) z (.tmp z .nil) ⟨z, (se_ aJ z z)⟩
     ·refine WC.condF' z I (sk (At.inBlock (th (rg (wY (ym z) z (wY (Y.add_i z z) z ?_))))))
      obtain ⟨aZ, aK, h⟩ := lt1 h
      refine WL.yE (ya z) (congrArg vi aK.symm) z (nl ?_)
      exact At.round (aZ, P) aW (Nat.lt_succ_self _) ⟨next1 h E, (tr_ (su_ j z) (su_ n z))⟩ (.cons z (.cons z (.cons z .nil)))
    ·refine WC.condF' z F (WC.exit (At.thenX (At.loopX ?_)))
     exact At.hitB (σ := Own) P ⟨brk1 h E, (su_ j z)⟩ .nil
   ·rintro a2 aL ⟨rfl, Z⟩
    replace h := flowK_go Q
    refine (show At _ _ _ [] _ from ?_)
    refine At.inBlockHit (th (sq (rg (wY (ya z) z (nl (th (rt ?_)))))))
    obtain rfl := some1 h
    have aM : Stp [] (Lg.O0 A) w a2 aL := (tr_ (su_ m z) (tr_ (su_ c z) (su_ Z z)))
    exact At.res (.inl z) z (.tmp z .nil) ⟨z, (se_ aM z z)⟩
theorem c_ref08_Same {A : Nat → Prop} {v0_3 : Value} {v0_5 : Value} {a0 : api_Hist} {v1_3 : Value} {v1_5 : Value} {a1 : api_Hist} {w : World} (hs0_3 : Sl Rep.u w A v0_3 a0.Pos.Counts) (hs0_5 : Sl Rep.u w A v0_5 a0.Neg.Counts) (hs1_3 : Sl Rep.u w A v1_3 a1.Pos.Counts) (hs1_5 : Sl Rep.u w A v1_5 a1.Neg.Counts) {r0 : Bool} (h : ref08_Same a0 a1 = some r0) : Rets Tryd.prog 34 [ag (hl a0 v0_3 v0_5), ag (hl a1 v1_3 v1_5)] w (fun v w' => v = vB r0 ∧ Ext w w') := by
 unfold ref08_Same at h
 refine Rets.enter Tryd.func34 z z ?_
 have E : Sl Rep.u w (imm (Lg.O0 A)) v0_3 a0.Pos.Counts := (Sl.start hs0_3)
 have F : Sl Rep.u w (imm (Lg.O0 A)) v0_5 a0.Neg.Counts := (Sl.start hs0_5)
 have ae : Sl Rep.u w (imm (Lg.O0 A)) v1_3 a1.Pos.Counts := (Sl.start hs1_3)
 have af : Sl Rep.u w (imm (Lg.O0 A)) v1_5 a1.Neg.Counts := (Sl.start hs1_5)
 refine (show WC _ _ _ _ [(0, ag (hl a0 v0_3 v0_5)), (1, ag (hl a1 v1_3 v1_5))] _ from ?_)
 refine sq (rg ?_)
 have ah := h
 obtain ⟨G, H, I, rfl⟩ := E.shape
 have h := ah
 have ai := h
 obtain ⟨J, K, M, rfl⟩ := F.shape
 have h := ai
 refine WL.box (O := (Lg.O0 A)) 11 (hl a0 (vl G H I) (vl J K M)) z z z ?_
 intro t aJ aX m aj
 have P := ae.i m z z
 have ak := h
 obtain ⟨Q, S, T, rfl⟩ := P.shape
 have h := ak
 have U := af.i m z z
 have al := h
 obtain ⟨V, W, X, rfl⟩ := U.shape
 have h := al
 refine WL.box (O := aJ) 12 (hl a1 (vl Q S T) (vl V W X)) z z z ?_
 intro C Z aa c n
 refine wY (ya z) z (nl (th (sq (rg (wY (yf fo39_0 z) z ?_)))))
 have o := aj.st c z
 refine wY (yl ty3 z z (o.cell 0 _ z)) z (wY (yf fo39_0 z) z (wY (yl ty3 z z (n.cell 0 _ z)) z (wY (Y.eql_i z z) z (wY (ym z) z ?_))))
 refine WL.cut 6 (σ := Unit) (fun _ w' => aa = w') (fun _ => [(2, pt t 0), (3, pt C 0), (16, vB ((decide (a0.Scale = a1.Scale)) && (decide (a0.Zero = a1.Zero))))]) ?_ ?_
 ·refine WL.part 10 z (fun p => ?_) (fun p => ?_)
  ·refine ug z z (wY (yf fo39_1 z) z (ug z z (wY (yl ty34 z z (o.cell 1 _ z)) z (ug z z (wY (yf fo39_1 z) z (ug z z (wY (yl ty34 z z (n.cell 1 _ z)) z (ug z z (wY (Y.eql_u z z) z ?_)))))))))
   refine wY (Y.pick (b := true) z z) z (WL.ren (v' := vB ((decide (a0.Scale = a1.Scale)) && (decide (a0.Zero = a1.Zero)))) 16 z (congrArg vB (andT p)) ?_)
   exact nl (At.join () z (.cons z (.cons z (.cons z .nil))))
  ·refine WL.gS z z z z (WL.gS z z z z (WL.gS z z z z (WL.gS z z z z (WL.gS z z z z (wY (Y.pick (b := false) z z) z (WL.ren (v' := vB ((decide (a0.Scale = a1.Scale)) && (decide (a0.Zero = a1.Zero)))) 16 z (congrArg vB (andF p)) ?_))))))
   exact nl (At.join () z (.cons z (.cons z (.cons z .nil))))
 ·rintro _ _ rfl
  refine (show WL _ _ _ _ _ [(2, pt t 0), (3, pt C 0), (16, vB ((decide (a0.Scale = a1.Scale)) && (decide (a0.Zero = a1.Zero))))] _ from ?_)
  refine wY (ym z) z ?_
  obtain ⟨aK, h, am⟩ := bnd h
  refine WL.cut 6 (σ := (Bool × Own)) (fun x w' => x.1 = aK ∧ Stp [] Z aa x.2 w') (fun x => [(2, pt t 0), (3, pt C 0), (23, vB x.1)]) ?_ ?_
  ·rcases cnd h with ⟨q, h⟩ | ⟨q, h⟩
   ·refine WL.ren 17 z (congrArg vB q) (ug z z (wY (yf fo39_2 z) z (ug z z (wY (yL ty37 z z (o.cells 2 [vi a0.Pos.Offset, (vl G H I)] z) z) z (ug z z (wY (yf fo39_2 z) z (ug z z (wY (yL ty37 z z (n.cells 2 [vi a1.Pos.Offset, (vl Q S T)] z) z) z (ug z z ?_)))))))))
    have ao := (E.i m z z).i c z z
    have ap := P.i c z z
    obtain ⟨aL, aq, h⟩ := bnd h
    refine WL.call (vals := [ag [vi a0.Pos.Offset, (vl G H I)], ag [vi a1.Pos.Offset, (vl Q S T)]]) kok61 z z (c_ref08_SameSide (A := fun _ => True) (a0 := a0.Pos) (a1 := a1.Pos) (Sl.all ao) (Sl.all ap) aq) ?_
    rintro aY aZ ⟨rfl, ar⟩
    obtain ⟨aM, aN, aO, ac⟩ := adoptE Z (fun k => 1) ar
    refine wY (Y.pick (b := true) z z) z ?_
    exact nl (At.join (σ := (Bool × Own)) (aL, aM) ⟨some1 h, (su_ ac z)⟩ (.cons z (.cons z (.cons z .nil))))
   ·refine WL.ren 17 z (congrArg vB q) (WL.gS z z z z (WL.gS z z z z (WL.gS z z z z (WL.gS z z z z (WL.gS z z z z (wY (Y.pick (b := false) z z) z ?_))))))
    exact nl (At.join (σ := (Bool × Own)) (false, Z) ⟨some1 h, (sr_ _ _ _)⟩ (.cons z (.cons z (.cons z .nil))))
  ·rintro ⟨aP, ab⟩ au ⟨rfl, j⟩
   replace h := am
   try dsimp only at h j
   refine (show WL _ _ _ _ _ [(2, pt t 0), (3, pt C 0), (23, vB aP)] _ from ?_)
   refine wY (ym z) z ?_
   obtain ⟨aQ, h, av⟩ := bnd h
   refine WL.cut 6 (σ := (Bool × Own)) (fun x w' => x.1 = aQ ∧ Stp [] ab au x.2 w') (fun x => [(30, vB x.1)]) ?_ ?_
   ·rcases cnd h with ⟨r, h⟩ | ⟨r, h⟩
    ·refine WL.ren 24 z (congrArg vB r) (ug z z (wY (yf fo39_3 z) z (ug z z ?_)))
     have ax := o.st j z
     refine wY (yL ty37 z z (ax.cells 4 [vi a0.Neg.Offset, (vl J K M)] z) z) z (ug z z (wY (yf fo39_3 z) z (ug z z ?_)))
     have ay := n.st j z
     refine wY (yL ty37 z z (ay.cells 4 [vi a1.Neg.Offset, (vl V W X)] z) z) z (ug z z ?_)
     have aC := ((F.i m z z).i c z z).i j z z
     have aE := (U.i c z z).i j z z
     obtain ⟨aR, aF, h⟩ := bnd h
     refine WL.call (vals := [ag [vi a0.Neg.Offset, (vl J K M)], ag [vi a1.Neg.Offset, (vl V W X)]]) kok61 z z (c_ref08_SameSide (A := fun _ => True) (a0 := a0.Neg) (a1 := a1.Neg) (Sl.all aC) (Sl.all aE) aF) ?_
     rintro a2 a3 ⟨rfl, aG⟩
     obtain ⟨aS, aT, aU, ad⟩ := adoptE ab (fun k => 1) aG
     refine wY (Y.pick (b := true) z z) z ?_
     exact nl (At.join (σ := (Bool × Own)) (aR, aS) ⟨some1 h, (su_ ad z)⟩ (.cons z .nil))
    ·refine WL.ren 24 z (congrArg vB r) (WL.gS z z z z (WL.gS z z z z (WL.gS z z z z (WL.gS z z z z (WL.gS z z z z (wY (Y.pick (b := false) z z) z ?_))))))
     exact nl (At.join (σ := (Bool × Own)) (false, ab) ⟨some1 h, (sr_ _ _ _)⟩ (.cons z .nil))
   ·rintro ⟨x64, aW⟩ aH ⟨rfl, D⟩
    replace h := av
    try dsimp only at h D
    refine (show WL _ _ _ _ _ [(30, vB x64)] _ from ?_)
    refine wY (ya z) z (nl (th (rt ?_)))
    obtain rfl := some1 h
    have aI : Stp [] (Lg.O0 A) w aW aH := (tr_ (su_ m z) (tr_ (su_ c z) (tr_ (su_ j z) (su_ D z))))
    exact At.res (.inl z) z (.tmp z .nil) ⟨z, (se_ aI z z)⟩
theorem c_ref12_Same {A : Nat → Prop} {v0_1 : Value} {v0_13 : Value} {v0_15 : Value} {a0 : api_Point} {v1_1 : Value} {v1_13 : Value} {v1_15 : Value} {a1 : api_Point} {w : World} (hs0_1 : Sl rep_api_Pair w A v0_1 a0.Attrs) (hs0_13 : Sl Rep.u w A v0_13 a0.Hist.Pos.Counts) (hs0_15 : Sl Rep.u w A v0_15 a0.Hist.Neg.Counts) (hs1_1 : Sl rep_api_Pair w A v1_1 a1.Attrs) (hs1_13 : Sl Rep.u w A v1_13 a1.Hist.Pos.Counts) (hs1_15 : Sl Rep.u w A v1_15 a1.Hist.Neg.Counts) {r0 : Bool} (h : ref12_Same a0 a1 = some r0) : Rets Tryd.prog 16 [ag (cp a0 v0_1 v0_13 v0_15), ag (cp a1 v1_1 v1_13 v1_15)] w (fun v w' => v = vB r0 ∧ Ext w w') := by
 unfold ref12_Same at h
 refine Rets.enter Tryd.func16 z z ?_
 have ae : Sl rep_api_Pair w (imm (Lg.O0 A)) v0_1 a0.Attrs := (Sl.start hs0_1)
 have af : Sl Rep.u w (imm (Lg.O0 A)) v0_13 a0.Hist.Pos.Counts := (Sl.start hs0_13)
 have ah : Sl Rep.u w (imm (Lg.O0 A)) v0_15 a0.Hist.Neg.Counts := (Sl.start hs0_15)
 have bC : Sl rep_api_Pair w (imm (Lg.O0 A)) v1_1 a1.Attrs := (Sl.start hs1_1)
 have bD : Sl Rep.u w (imm (Lg.O0 A)) v1_13 a1.Hist.Pos.Counts := (Sl.start hs1_13)
 have bE : Sl Rep.u w (imm (Lg.O0 A)) v1_15 a1.Hist.Neg.Counts := (Sl.start hs1_15)
 refine (show WC _ _ _ _ [(0, ag (cp a0 v0_1 v0_13 v0_15)), (1, ag (cp a1 v1_1 v1_13 v1_15))] _ from ?_)
 refine sq (rg ?_)
 have bF := h
 obtain ⟨bu, bw, bx, rfl⟩ := ae.shape
 have h := bF
 have bG := h
 obtain ⟨ai, aj, ak, rfl⟩ := af.shape
 have h := bG
 have bH := h
 obtain ⟨al, am, an, rfl⟩ := ah.shape
 have h := bH
 refine WL.box (O := (Lg.O0 A)) 11 (cp a0 (vl bu bw bx) (vl ai aj ak) (vl al am an)) z z z ?_
 intro p ce cm r Z
 have ao := bC.i r z z
 have bI := h
 obtain ⟨bz, bA, bB, rfl⟩ := ao.shape
 have h := bI
 have ap := bD.i r z z
 have bJ := h
 obtain ⟨aq, ar, au, rfl⟩ := ap.shape
 have h := bJ
 have av := bE.i r z z
 have bK := h
 obtain ⟨ax, ay, az, rfl⟩ := av.shape
 have h := bK
 refine WL.box (O := ce) 12 (cp a1 (vl bz bA bB) (vl aq ar au) (vl ax ay az)) z z z ?_
 intro q ab cn j aa
 refine wY (ya z) z (nl (th (sq (sq (WC.drawH [] [0, 1, 2, 3, 4, 5, 6, 7, 8, 9, 10, 11, 12, 13, 14] ab 15 fmix z (by kernel_rfl) ?_)))))
 intro bL c
 refine WD.y 0 z (by kernel_rfl) (fun _ _ _ => yf fo41_0 z) z (WD.y 1 z (by kernel_rfl) (fun co ct aG => have bM := Z.st j z; have bO := bM.st c z; have bP := bO.st aG z; yl ty9 z z (bP.cell 0 _ z)) z (WD.y 2 z (by kernel_rfl) (fun _ _ _ => yf fo41_0 z) z (WD.y 3 z (by kernel_rfl) (fun cq cu aH => have bQ := aa.st c z; have bR := bQ.st aH z; yl ty9 z z (bR.cell 0 _ z)) z (WD.y 4 z (by kernel_rfl) (fun _ _ _ => Y.neq_s z z) z (WD.y 5 z (by kernel_rfl) (fun _ _ _ => ym z) z ?_)))))
 obtain ⟨cf, h, bS⟩ := bnd h
 refine WD.join (σ := (Bool × Own)) (f' := 0) [14, 13, 12, 11, 8, 10, 9, 7, 6, 5, 4, 3, 2, 1, 0] (fun x O' w' => x.1 = cf ∧ Stp [] ab bL x.2 w' ∧ x.2 = O') (fun x => [(2, pt p 0), (3, pt q 0), (19, vB x.1)]) (fun aA => ?_) ?_
 ·rcases cnd h with ⟨C, h⟩ | ⟨C, h⟩
  ·refine WD.ren 10 z (congrArg vB C) (WD.gS 6 z (by kernel_rfl) z z z z (WD.gS 7 z (by kernel_rfl) z z z z (WD.gS 9 z (by kernel_rfl) z z z z (WD.gS 10 z (by kernel_rfl) z z z z (WD.heavy 8 z (by kernel_rfl) (WL.gS z z z z (nl (At.dq (sr_ _ _ _) (WD.heavy 11 z (by kernel_rfl) ?_)))))))))
   refine WL.gS z z z z (nl (At.dq (sr_ _ _ _) (WD.heavy 12 z (by kernel_rfl) (WL.gS z z z z (nl (At.dq (sr_ _ _ _) (WD.gS 13 z (by kernel_rfl) z z z z (WD.y 14 z (by kernel_rfl) (fun _ _ _ => Y.pick (b := true) z z) z (WD.ren 10 z (congrArg vB C.symm) ?_)))))))))
   exact aA (true, ab) _ _ _ ⟨some1 h, (sr_ _ _ _), z⟩ (.cons z (.cons z (.cons z .nil)))
  ·refine WD.ren 10 z (congrArg vB C) (WD.gT 6 z (by kernel_rfl) z z (fun _ _ _ => yf fo41_1 z) z (WD.gT 7 z (by kernel_rfl) z z (fun cr cw aI => have bT := Z.st j z; have bU := bT.st c z; have bW := bU.st aI z; yl ty33 z z (bW.cell 1 _ z)) z (WD.gT 9 z (by kernel_rfl) z z (fun _ _ _ => yf fo41_1 z) z (WD.gT 10 z (by kernel_rfl) z z (fun ch cs aC => have aJ := aa.st c z; have aK := aJ.st aC z; yl ty33 z z (aK.cell 1 _ z)) z (WD.heavy 8 z (by kernel_rfl) (ug z z ?_))))))
   have aN := ((ae.i r z z).i j z z).i c z z
   obtain ⟨bX, aO, h⟩ := bnd h
   refine WL.call (vals := [(vl bu bw bx)]) kok22 z z (c_ref11_Sorted (A := fun _ => True) (Sl.all aN) aO) ?_
   rintro F aP ⟨_, rfl, aQ, bY⟩
   obtain ⟨aD, b8, ac, D⟩ := adoptE ab (fun k => if ob F = some k then 13 else 1) aQ
   have aR : OwnSl 13 rep_api_Pair 59 aD aP F bX := RowF.adopt 13 flat_api_Pair bY ac (fun k hk => if_pos hk)
   refine nl (At.dq (su_ D z) (WD.heavy 11 z (by kernel_rfl) (ug z z ?_)))
   have aU := ((ao.i j z z).i c z z).i D z z
   obtain ⟨bZ, aW, h⟩ := bnd h
   refine WL.call (vals := [(vl bz bA bB)]) kok22 z z (c_ref11_Sorted (A := fun _ => True) (Sl.all aU) aW) ?_
   rintro G aX ⟨_, rfl, aY, b0⟩
   obtain ⟨aE, b9, ad, E⟩ := adoptE aD (fun k => if ob G = some k then 14 else 1) aY
   have aZ : OwnSl 14 rep_api_Pair 59 aE aX G bZ := RowF.adopt 14 flat_api_Pair b0 ad (fun k hk => if_pos hk)
   refine nl (At.dq (su_ E z) (WD.heavy 12 z (by kernel_rfl) (ug z z ?_)))
   have a2 := aR.st E z z z
   obtain ⟨b1, a3, h⟩ := bnd h
   refine WL.call (vals := [F, G]) kok17 z z (c_ref11_Same (A := fun _ => True) (a2.src.sl) (aZ.src.sl) a3) ?_
   rintro ci cj ⟨rfl, a4⟩
   obtain ⟨b2, ca, cb, V⟩ := adoptE aE (fun k => 1) a4
   refine nl (At.dq (su_ V z) (WD.gT 13 z (by kernel_rfl) z z (fun _ _ _ => Y.not z) z (WD.y 14 z (by kernel_rfl) (fun _ _ _ => Y.pick (b := false) z z) z (WD.ren 10 z (congrArg vB C.symm) ?_))))
   exact aA ((!b1), b2) _ _ _ ⟨some1 h, (tr_ (su_ D z) (tr_ (su_ E z) (su_ V z))), z⟩ (.cons z (.cons z (.cons z .nil)))
 ·rintro ⟨cg, W⟩ _ t ⟨rfl, m, rfl⟩
  replace h := bS
  try dsimp only at h m
  refine (show WD _ _ _ _ _ _ _ _ [(2, pt p 0), (3, pt q 0), (19, vB cg)] _ _ from ?_)
  refine WD.done_ (by kernel_rfl) (th ?_)
  rcases cnd h with ⟨H, h⟩ | ⟨H, h⟩
  ·refine WC.condT' z H (sq (rg (wY (ya z) z (nl (th (rt (At.thenR ?_)))))))
   obtain rfl := some1 h
   have a5 : Stp [] (Lg.O0 A) w W t := (tr_ (su_ r z) (tr_ (su_ j z) (tr_ (su_ c z) (su_ m z))))
   exact At.res (.inl z) z (.tmp z .nil) ⟨z, (se_ a5 z z)⟩
  ·refine WC.condF' z H (sk (th (sq (sq (rg (wY (yf fo41_2 z) z ?_))))))
   have n := ((Z.st j z).st c z).st m z
   refine wY (yl ty3 z z (n.cell 2 _ z)) z (wY (yf fo41_2 z) z ?_)
   have o := (aa.st c z).st m z
   refine wY (yl ty3 z z (o.cell 2 _ z)) z (wY (Y.neq_i z z) z (wY (ym z) z ?_))
   refine WL.cut 6 (σ := Unit) (fun _ w' => t = w') (fun _ => [(2, pt p 0), (3, pt q 0), (31, vB ((!decide (a0.Kind = a1.Kind)) || (!decide (a0.Temp = a1.Temp))))]) ?_ ?_
   ·refine WL.part 25 z (fun I => ?_) (fun I => ?_)
    ·refine WL.gS z z z z (WL.gS z z z z (WL.gS z z z z (WL.gS z z z z (WL.gS z z z z (wY (Y.pick (b := true) z z) z (WL.ren (v' := vB ((!decide (a0.Kind = a1.Kind)) || (!decide (a0.Temp = a1.Temp)))) 31 z (congrArg vB (orT I)) ?_))))))
     exact nl (At.join () z (.cons z (.cons z (.cons z .nil))))
    ·refine ug z z (wY (yf fo41_3 z) z (ug z z (wY (yl ty3 z z (n.cell 3 _ z)) z (ug z z (wY (yf fo41_3 z) z (ug z z (wY (yl ty3 z z (o.cell 3 _ z)) z (ug z z (wY (Y.neq_i z z) z ?_)))))))))
     refine wY (Y.pick (b := false) z z) z (WL.ren (v' := vB ((!decide (a0.Kind = a1.Kind)) || (!decide (a0.Temp = a1.Temp)))) 31 z (congrArg vB (orF I)) ?_)
     exact nl (At.join () z (.cons z (.cons z (.cons z .nil))))
   ·rintro _ _ rfl
    refine (show WL _ _ _ _ _ [(2, pt p 0), (3, pt q 0), (31, vB ((!decide (a0.Kind = a1.Kind)) || (!decide (a0.Temp = a1.Temp))))] _ from ?_)
    refine wY (ym z) z ?_
    refine WL.cut 6 (σ := Unit) (fun _ w' => t = w') (fun _ => [(2, pt p 0), (3, pt q 0), (38, vB (((!decide (a0.Kind = a1.Kind)) || (!decide (a0.Temp = a1.Temp))) || (!decide (a0.Mono = a1.Mono))))]) ?_ ?_
    ·refine WL.part 32 z (fun J => ?_) (fun J => ?_)
     ·refine WL.gS z z z z (WL.gS z z z z (WL.gS z z z z (WL.gS z z z z (WL.gS z z z z (wY (Y.pick (b := true) z z) z (WL.ren (v' := vB (((!decide (a0.Kind = a1.Kind)) || (!decide (a0.Temp = a1.Temp))) || (!decide (a0.Mono = a1.Mono)))) 38 z (congrArg vB (orT J)) ?_))))))
      exact nl (At.join () z (.cons z (.cons z (.cons z .nil))))
     ·refine ug z z (wY (yf fo41_4 z) z (ug z z (wY (yl ty4 z z (n.cell 4 _ z)) z (ug z z (wY (yf fo41_4 z) z (ug z z (wY (yl ty4 z z (o.cell 4 _ z)) z (ug z z (wY (Y.neqB z z ty4.u) z ?_)))))))))
      refine wY (Y.pick (b := false) z z) z (WL.ren (v' := vB (((!decide (a0.Kind = a1.Kind)) || (!decide (a0.Temp = a1.Temp))) || (!decide (a0.Mono = a1.Mono)))) 38 z (congrArg vB (orF J)) ?_)
      exact nl (At.join () z (.cons z (.cons z (.cons z .nil))))
    ·rintro _ _ rfl
     refine (show WL _ _ _ _ _ [(2, pt p 0), (3, pt q 0), (38, vB (((!decide (a0.Kind = a1.Kind)) || (!decide (a0.Temp = a1.Temp))) || (!decide (a0.Mono = a1.Mono))))] _ from ?_)
     refine wY (ym z) z ?_
     refine WL.cut 6 (σ := Unit) (fun _ w' => t = w') (fun _ => [(2, pt p 0), (3, pt q 0), (45, vB ((((!decide (a0.Kind = a1.Kind)) || (!decide (a0.Temp = a1.Temp))) || (!decide (a0.Mono = a1.Mono))) || (!decide (a0.Start = a1.Start))))]) ?_ ?_
     ·refine WL.part 39 z (fun K => ?_) (fun K => ?_)
      ·refine WL.gS z z z z (WL.gS z z z z (WL.gS z z z z (WL.gS z z z z (WL.gS z z z z (wY (Y.pick (b := true) z z) z (WL.ren (v' := vB ((((!decide (a0.Kind = a1.Kind)) || (!decide (a0.Temp = a1.Temp))) || (!decide (a0.Mono = a1.Mono))) || (!decide (a0.Start = a1.Start)))) 45 z (congrArg vB (orT K)) ?_))))))
       exact nl (At.join () z (.cons z (.cons z (.cons z .nil))))
      ·refine ug z z (wY (yf fo41_5 z) z (ug z z (wY (yl ty3 z z (n.cell 5 _ z)) z (ug z z (wY (yf fo41_5 z) z (ug z z (wY (yl ty3 z z (o.cell 5 _ z)) z (ug z z (wY (Y.neq_i z z) z ?_)))))))))
       refine wY (Y.pick (b := false) z z) z (WL.ren (v' := vB ((((!decide (a0.Kind = a1.Kind)) || (!decide (a0.Temp = a1.Temp))) || (!decide (a0.Mono = a1.Mono))) || (!decide (a0.Start = a1.Start)))) 45 z (congrArg vB (orF K)) ?_)
       exact nl (At.join () z (.cons z (.cons z (.cons z .nil))))
     ·rintro _ _ rfl
      refine (show WL _ _ _ _ _ [(2, pt p 0), (3, pt q 0), (45, vB ((((!decide (a0.Kind = a1.Kind)) || (!decide (a0.Temp = a1.Temp))) || (!decide (a0.Mono = a1.Mono))) || (!decide (a0.Start = a1.Start))))] _ from ?_)
      refine wY (ym z) z ?_
      refine WL.cut 6 (σ := Unit) (fun _ w' => t = w') (fun _ => [(2, pt p 0), (3, pt q 0), (52, vB (((((!decide (a0.Kind = a1.Kind)) || (!decide (a0.Temp = a1.Temp))) || (!decide (a0.Mono = a1.Mono))) || (!decide (a0.Start = a1.Start))) || (!decide (a0.Time = a1.Time))))]) ?_ ?_
      ·refine WL.part 46 z (fun M => ?_) (fun M => ?_)
       ·refine WL.gS z z z z (WL.gS z z z z (WL.gS z z z z (WL.gS z z z z (WL.gS z z z z (wY (Y.pick (b := true) z z) z (WL.ren (v' := vB (((((!decide (a0.Kind = a1.Kind)) || (!decide (a0.Temp = a1.Temp))) || (!decide (a0.Mono = a1.Mono))) || (!decide (a0.Start = a1.Start))) || (!decide (a0.Time = a1.Time)))) 52 z (congrArg vB (orT M)) ?_))))))
        exact nl (At.join () z (.cons z (.cons z (.cons z .nil))))
       ·refine ug z z (wY (yf fo41_6 z) z (ug z z (wY (yl ty3 z z (n.cell 6 _ z)) z (ug z z (wY (yf fo41_6 z) z (ug z z (wY (yl ty3 z z (o.cell 6 _ z)) z (ug z z (wY (Y.neq_i z z) z ?_)))))))))
        refine wY (Y.pick (b := false) z z) z (WL.ren (v' := vB (((((!decide (a0.Kind = a1.Kind)) || (!decide (a0.Temp = a1.Temp))) || (!decide (a0.Mono = a1.Mono))) || (!decide (a0.Start = a1.Start))) || (!decide (a0.Time = a1.Time)))) 52 z (congrArg vB (orF M)) ?_)
        exact nl (At.join () z (.cons z (.cons z (.cons z .nil))))
      ·rintro _ _ rfl
       refine (show WL _ _ _ _ _ [(2, pt p 0), (3, pt q 0), (52, vB (((((!decide (a0.Kind = a1.Kind)) || (!decide (a0.Temp = a1.Temp))) || (!decide (a0.Mono = a1.Mono))) || (!decide (a0.Start = a1.Start))) || (!decide (a0.Time = a1.Time))))] _ from ?_)
       refine nl (th ?_)
       rcases cnd h with ⟨P, h⟩ | ⟨P, h⟩
       ·refine WC.condT' z P (sq (rg (wY (ya z) z (nl (th (rt (At.thenR ?_)))))))
        obtain rfl := some1 h
        have a9 : Stp [] (Lg.O0 A) w W t := (tr_ (su_ r z) (tr_ (su_ j z) (tr_ (su_ c z) (su_ m z))))
        exact At.res (.inl z) z (.tmp z .nil) ⟨z, (se_ a9 z z)⟩
       ·refine WC.condF' z P (sk (th (sq (rg (wY (yf fo41_7 z) z (wY (yl ty3 z z (n.cell 7 _ z)) z (wY (yf fo41_7 z) z (wY (yl ty3 z z (o.cell 7 _ z)) z (wY (Y.eql_i z z) z ?_)))))))))
        refine wY (ym z) z ?_
        refine WL.cut 6 (σ := Unit) (fun _ w' => t = w') (fun _ => [(2, pt p 0), (3, pt q 0), (64, vB ((decide (a0.Int_ = a1.Int_)) && (decide (a0.Re = a1.Re))))]) ?_ ?_
        ·refine WL.part 58 z (fun Q => ?_) (fun Q => ?_)
         ·refine ug z z (wY (yf fo41_8 z) z (ug z z (wY (yl ty34 z z (n.cell 8 _ z)) z (ug z z (wY (yf fo41_8 z) z (ug z z (wY (yl ty34 z z (o.cell 8 _ z)) z (ug z z (wY (Y.eql_u z z) z ?_)))))))))
          refine wY (Y.pick (b := true) z z) z (WL.ren (v' := vB ((decide (a0.Int_ = a1.Int_)) && (decide (a0.Re = a1.Re)))) 64 z (congrArg vB (andT Q)) ?_)
          exact nl (At.join () z (.cons z (.cons z (.cons z .nil))))
         ·refine WL.gS z z z z (WL.gS z z z z (WL.gS z z z z (WL.gS z z z z (WL.gS z z z z (wY (Y.pick (b := false) z z) z (WL.ren (v' := vB ((decide (a0.Int_ = a1.Int_)) && (decide (a0.Re = a1.Re)))) 64 z (congrArg vB (andF Q)) ?_))))))
          exact nl (At.join () z (.cons z (.cons z (.cons z .nil))))
        ·rintro _ _ rfl
         refine (show WL _ _ _ _ _ [(2, pt p 0), (3, pt q 0), (64, vB ((decide (a0.Int_ = a1.Int_)) && (decide (a0.Re = a1.Re))))] _ from ?_)
         refine wY (ym z) z ?_
         refine WL.cut 6 (σ := Unit) (fun _ w' => t = w') (fun _ => [(2, pt p 0), (3, pt q 0), (71, vB (((decide (a0.Int_ = a1.Int_)) && (decide (a0.Re = a1.Re))) && (decide (a0.Im = a1.Im))))]) ?_ ?_
         ·refine WL.part 65 z (fun S => ?_) (fun S => ?_)
          ·refine ug z z (wY (yf fo41_9 z) z (ug z z (wY (yl ty34 z z (n.cell 9 _ z)) z (ug z z (wY (yf fo41_9 z) z (ug z z (wY (yl ty34 z z (o.cell 9 _ z)) z (ug z z (wY (Y.eql_u z z) z ?_)))))))))
           refine wY (Y.pick (b := true) z z) z (WL.ren (v' := vB (((decide (a0.Int_ = a1.Int_)) && (decide (a0.Re = a1.Re))) && (decide (a0.Im = a1.Im)))) 71 z (congrArg vB (andT S)) ?_)
           exact nl (At.join () z (.cons z (.cons z (.cons z .nil))))
          ·refine WL.gS z z z z (WL.gS z z z z (WL.gS z z z z (WL.gS z z z z (WL.gS z z z z (wY (Y.pick (b := false) z z) z (WL.ren (v' := vB (((decide (a0.Int_ = a1.Int_)) && (decide (a0.Re = a1.Re))) && (decide (a0.Im = a1.Im)))) 71 z (congrArg vB (andF S)) ?_))))))
           exact nl (At.join () z (.cons z (.cons z (.cons z .nil))))
         ·rintro _ _ rfl
          refine (show WL _ _ _ _ _ [(2, pt p 0), (3, pt q 0), (71, vB (((decide (a0.Int_ = a1.Int_)) && (decide (a0.Re = a1.Re))) && (decide (a0.Im = a1.Im))))] _ from ?_)
          refine wY (ym z) z ?_
          refine WL.cut 6 (σ := Unit) (fun _ w' => t = w') (fun _ => [(2, pt p 0), (3, pt q 0), (78, vB ((((decide (a0.Int_ = a1.Int_)) && (decide (a0.Re = a1.Re))) && (decide (a0.Im = a1.Im))) && (decide (a0.Flags = a1.Flags))))]) ?_ ?_
          ·refine WL.part 72 z (fun T => ?_) (fun T => ?_)
           ·refine ug z z (wY (yf fo41_11 z) z (ug z z (wY (yl ty3 z z (n.cell 16 _ z)) z (ug z z (wY (yf fo41_11 z) z (ug z z (wY (yl ty3 z z (o.cell 16 _ z)) z (ug z z (wY (Y.eql_i z z) z ?_)))))))))
            refine wY (Y.pick (b := true) z z) z (WL.ren (v' := vB ((((decide (a0.Int_ = a1.Int_)) && (decide (a0.Re = a1.Re))) && (decide (a0.Im = a1.Im))) && (decide (a0.Flags = a1.Flags)))) 78 z (congrArg vB (andT T)) ?_)
            exact nl (At.join () z (.cons z (.cons z (.cons z .nil))))
           ·refine WL.gS z z z z (WL.gS z z z z (WL.gS z z z z (WL.gS z z z z (WL.gS z z z z (wY (Y.pick (b := false) z z) z (WL.ren (v' := vB ((((decide (a0.Int_ = a1.Int_)) && (decide (a0.Re = a1.Re))) && (decide (a0.Im = a1.Im))) && (decide (a0.Flags = a1.Flags)))) 78 z (congrArg vB (andF T)) ?_))))))
            exact nl (At.join () z (.cons z (.cons z (.cons z .nil))))
          ·rintro _ _ rfl
           refine (show WL _ _ _ _ _ [(2, pt p 0), (3, pt q 0), (78, vB ((((decide (a0.Int_ = a1.Int_)) && (decide (a0.Re = a1.Re))) && (decide (a0.Im = a1.Im))) && (decide (a0.Flags = a1.Flags))))] _ from ?_)
           refine wY (ym z) z ?_
           obtain ⟨b3, h, ba⟩ := bnd h
           refine WL.cut 6 (σ := (Bool × Own)) (fun x w' => x.1 = b3 ∧ Stp [] W t x.2 w') (fun x => [(85, vB x.1)]) ?_ ?_
           ·rcases cnd h with ⟨U, h⟩ | ⟨U, h⟩
            ·refine WL.ren 79 z (congrArg vB U) (ug z z (wY (yf fo41_10 z) z (ug z z (wY (yL ty39 z z (n.cells 10 (hl a0.Hist (vl ai aj ak) (vl al am an)) z) z) z (ug z z (wY (yf fo41_10 z) z (ug z z (wY (yL ty39 z z (o.cells 10 (hl a1.Hist (vl aq ar au) (vl ax ay az)) z) z) z (ug z z ?_)))))))))
             have bf := (((af.i r z z).i j z z).i c z z).i m z z
             have bj := (((ah.i r z z).i j z z).i c z z).i m z z
             have bm := ((ap.i j z z).i c z z).i m z z
             have bp := ((av.i j z z).i c z z).i m z z
             obtain ⟨b4, bq, h⟩ := bnd h
             refine WL.call (vals := [ag (hl a0.Hist (vl ai aj ak) (vl al am an)), ag (hl a1.Hist (vl aq ar au) (vl ax ay az))]) kok34 z z (c_ref08_Same (A := fun _ => True) (a0 := a0.Hist) (a1 := a1.Hist) (Sl.all bf) (Sl.all bj) (Sl.all bm) (Sl.all bp) bq) ?_
             rintro ck cl ⟨rfl, br⟩
             obtain ⟨b5, cc, cd, aF⟩ := adoptE W (fun k => 1) br
             refine wY (Y.pick (b := true) z z) z ?_
             exact nl (At.join (σ := (Bool × Own)) (b4, b5) ⟨some1 h, (su_ aF z)⟩ (.cons z .nil))
            ·refine WL.ren 79 z (congrArg vB U) (WL.gS z z z z (WL.gS z z z z (WL.gS z z z z (WL.gS z z z z (WL.gS z z z z (wY (Y.pick (b := false) z z) z ?_))))))
             exact nl (At.join (σ := (Bool × Own)) (false, W) ⟨some1 h, (sr_ _ _ _)⟩ (.cons z .nil))
           ·rintro ⟨b6, b7⟩ bs ⟨rfl, X⟩
            replace h := ba
            try dsimp only at h X
            refine (show WL _ _ _ _ _ [(85, vB b6)] _ from ?_)
            refine wY (ya z) z (nl (th (rt ?_)))
            obtain rfl := some1 h
            have bt : Stp [] (Lg.O0 A) w b7 bs := (tr_ (su_ r z) (tr_ (su_ j z) (tr_ (su_ c z) (tr_ (su_ m z) (su_ X z)))))
            exact At.res (.inl z) z (.tmp z .nil) ⟨z, (se_ bt z z)⟩
end Go.Lg
