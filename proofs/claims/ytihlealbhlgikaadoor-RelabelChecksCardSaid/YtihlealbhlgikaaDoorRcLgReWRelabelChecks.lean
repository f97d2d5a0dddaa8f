/- The walks of RelabelChecks and of what it calls, printed by gen.py. -/
import Derived.Test.YtihlealbhlgikaaDoorRcLgReWRelabelChecksx2
set_option linter.unusedVariables false
namespace Go.Lg
open Go Go.Proofs
set_option maxRecDepth 100000
set_option maxHeartbeats 4000000
theorem c_ref33_Check {a0 : api_Rule} {w : World} {r0 : Int} (h : ref33_Check a0 = some r0) : Rets Tryd.prog 9 [ag [vi a0.Kind, vs a0.Key, vs a0.Glob, vs a0.To, vs a0.Val]] w (fun v w' => v = vi r0 ∧ Ext w w') := by
 unfold ref33_Check at h
 refine Rets.enter Tryd.func9 z z ?_
 refine (show WC _ _ _ _ [(0, ag [vi a0.Kind, vs a0.Key, vs a0.Glob, vs a0.To, vs a0.Val])] _ from ?_)
 refine sq (rg (WL.box (O := (Lg.O0 (fun _ => False))) 11 [vi a0.Kind, vs a0.Key, vs a0.Glob, vs a0.To, vs a0.Val] z z z ?_))
 intro c ar aj m C
 refine wY (ya z) z (nl (th (sq (sq (rg (wY (yf fo28_0 z) z (wY (yl ty3 z z (C.cell 0 _ z)) z (wY (Y.lss_i z z) z (wY (ym z) z ?_)))))))))
 refine WL.cut 4 (σ := Unit) (fun _ w' => aj = w') (fun _ => [(1, pt c 0), (12, vB ((decide (a0.Kind < 1)) || (decide (5 < a0.Kind))))]) ?_ ?_
 ·refine WL.part 8 z (fun P => ?_) (fun P => ?_)
  ·refine WL.gS z z z z (WL.gS z z z z (WL.gS z z z z (wY (Y.pick (b := true) z z) z (WL.ren (v' := vB ((decide (a0.Kind < 1)) || (decide (5 < a0.Kind)))) 12 z (congrArg vB (orT P)) ?_))))
   exact nl (At.join () z (.cons z (.cons z .nil)))
  ·refine ug z z (wY (yf fo28_0 z) z (ug z z (wY (yl ty3 z z (C.cell 0 _ z)) z (ug z z (wY (Y.gtr_i z z) z (wY (Y.pick (b := false) z z) z (WL.ren (v' := vB ((decide (a0.Kind < 1)) || (decide (5 < a0.Kind)))) 12 z (congrArg vB (orF P)) ?_)))))))
   exact nl (At.join () z (.cons z (.cons z .nil)))
 ·rintro _ _ rfl
  refine (show WL _ _ _ _ _ [(1, pt c 0), (12, vB ((decide (a0.Kind < 1)) || (decide (5 < a0.Kind))))] _ from ?_)
  refine nl (th ?_)
  rcases cnd h with ⟨Q, h⟩ | ⟨Q, h⟩
  ·refine WC.condT' z Q (sq (rg (wY (ya z) z (nl (th (rt (At.thenR ?_)))))))
   obtain rfl := some1 h
   have aD : Stp [] (Lg.O0 (fun _ => False)) w ar aj := (su_ m z)
   exact At.res (.inl z) z (.tmp z .nil) ⟨z, (se_ aD z z)⟩
  ·refine WC.condF' z Q (sk (th (sq (sq (rg (wY (yf fo28_2 z) z (wY (yl ty9 z z (C.cell 2 _ z)) z ?_)))))))
   obtain ⟨J, aE, h⟩ := bnd h
   refine WL.call (vals := [vs a0.Glob]) kok23 z z (c_ref32_Compile aE) ?_
   rintro bh aF ⟨a5, rfl, aG, a6⟩
   obtain ⟨au, a7, ak, n⟩ := adoptE ar (fun k => 1) aG
   have aH : Sl rep_ref32_Piece aF (frs au) a5 J.L := Sl.adoptF a6 (fun k hk => ⟨hk, z⟩) ak
   refine WL.alloc (O := au) 12 [sn, vi 0, vi 0] ty63 z z ?_
   intro bn av bi j aI
   have aJ := aH.f j z
   have aK := h
   obtain ⟨ax, ay, az, rfl⟩ := aJ.shape
   have h := aK
   refine WL.store (v := ag [(vl ax ay az), vi J.At, vi J.E]) (cells' := [(vl ax ay az), vi J.At, vi J.E]) ty63 z z aI z (le_ z) z z ?_
   intro aL o al
   refine nl (th (sq (rg (wY (yf fo63_2 z) z (wY (yl ty25 z z (al.cell 2 _ z)) z (wY (Y.neq_i z z) z (nl (th ?_))))))))
   rcases cnd h with ⟨R, h⟩ | ⟨R, h⟩
   ·refine WC.condT' z R (sq (rg (wY (yf fo63_2 z) z (wY (yl ty25 z z (al.cell 2 _ z)) z (wY (ya z) z (nl (th (rt (At.thenR ?_)))))))))
    obtain rfl := some1 h
    have aM : Stp [12] (Lg.O0 (fun _ => False)) w av aL := (tr_ (su_ m z) (tr_ (su_ n z) (tr_ (su_ j z) (su_ o z))))
    exact At.res (.inl z) z (.tmp z .nil) ⟨z, (se_ aM z z)⟩
   ·refine WC.condF' z R (sk (th (sq (rg (wY (yf fo28_1 z) z ?_)))))
    have am := ((C.st n z).st j z).st o z
    refine wY (yl ty9 z z (am.cell 1 _ z)) z ?_
    obtain ⟨a, aP, h⟩ := bnd h
    refine WL.call (vals := [vs a0.Key]) kok24 z z (c_ref11_Name aP) ?_
    rintro bj p ⟨rfl, aQ⟩
    obtain ⟨K, a8, a9, r⟩ := adoptE av (fun k => 1) aQ
    refine wY (ya z) z (nl (th (sq (sq (rg (wY (yf fo28_1 z) z ?_))))))
    have q := am.st r z
    refine wY (yl ty9 z z (q.cell 1 _ z)) z (wY (Y.neq_s (b := []) z z) z (wY (ym z) z ?_))
    refine WL.cut 3 (σ := Unit) (fun _ w' => p = w') (fun _ => [(1, pt c 0), (4, vB a), (30, vB ((!decide (a0.Key = [])) && (!a)))]) ?_ ?_
    ·refine WL.part 27 z (fun S => ?_) (fun S => ?_)
     ·refine ug z z (wY (ym z) z (ug z z (wY (Y.not z) z (wY (Y.pick (b := true) z z) z (WL.ren (v' := vB ((!decide (a0.Key = [])) && (!a))) 30 z (congrArg vB (andT S)) ?_)))))
      exact nl (At.join () z (.cons z (.cons z (.cons z .nil))))
     ·refine WL.gS z z z z (WL.gS z z z z (wY (Y.pick (b := false) z z) z (WL.ren (v' := vB ((!decide (a0.Key = [])) && (!a))) 30 z (congrArg vB (andF S)) ?_)))
      exact nl (At.join () z (.cons z (.cons z (.cons z .nil))))
    ·rintro _ _ rfl
     refine (show WL _ _ _ _ _ [(1, pt c 0), (4, vB a), (30, vB ((!decide (a0.Key = [])) && (!a)))] _ from ?_)
     refine wY (ym z) z ?_
     refine WL.cut 8 (σ := Unit) (fun _ w' => p = w') (fun _ => [(1, pt c 0), (39, vB (((!decide (a0.Key = [])) && (!a)) || ((decide (a0.Kind = 4)) && (!a))))]) ?_ ?_
     ·refine WL.part 31 z (fun T => ?_) (fun T => ?_)
      ·refine WL.gS z z z z (WL.gS z z z z (WL.gS z z z z (WL.gS z z z z (WL.gS z z z z (WL.gS z z z z (WL.gS z z z z (wY (Y.pick (b := true) z z) z (WL.ren (v' := vB (((!decide (a0.Key = [])) && (!a)) || ((decide (a0.Kind = 4)) && (!a)))) 39 z (congrArg vB (orT T)) ?_))))))))
       exact nl (At.join () z (.cons z (.cons z .nil)))
      ·refine ug z z (wY (yf fo28_0 z) z (ug z z (wY (yl ty3 z z (q.cell 0 _ z)) z (ug z z (wY (Y.eql_i z z) z (ug z z (wY (ym z) z ?_)))))))
       refine WL.cut 3 (σ := Unit) (fun _ w' => p = w') (fun _ => [(1, pt c 0), (31, vB false), (38, vB ((decide (a0.Kind = 4)) && (!a)))]) ?_ ?_
       ·refine WL.part 35 z (fun U => ?_) (fun U => ?_)
        ·refine ug z z (wY (ym z) z (ug z z (wY (Y.not z) z (ug z z (wY (Y.pick (b := true) z z) z (WL.ren (v' := vB ((decide (a0.Kind = 4)) && (!a))) 38 z (congrArg vB (andT U)) ?_))))))
         exact nl (At.join () z (.cons z (.cons z (.cons z .nil))))
        ·refine WL.gS z z z z (WL.gS z z z z (ug z z (wY (Y.pick (b := false) z z) z (WL.ren (v' := vB ((decide (a0.Kind = 4)) && (!a))) 38 z (congrArg vB (andF U)) ?_))))
         exact nl (At.join () z (.cons z (.cons z (.cons z .nil))))
       ·rintro _ _ rfl
        refine (show WL _ _ _ _ _ [(1, pt c 0), (31, vB false), (38, vB ((decide (a0.Kind = 4)) && (!a)))] _ from ?_)
        refine wY (Y.pick (b := false) z z) z (WL.ren (v' := vB (((!decide (a0.Key = [])) && (!a)) || ((decide (a0.Kind = 4)) && (!a)))) 39 z (congrArg vB (orF T)) ?_)
        exact nl (At.join () z (.cons z (.cons z .nil)))
     ·rintro _ _ rfl
      refine (show WL _ _ _ _ _ [(1, pt c 0), (39, vB (((!decide (a0.Key = [])) && (!a)) || ((decide (a0.Kind = 4)) && (!a))))] _ from ?_)
      refine wY (ym z) z ?_
      refine WL.cut 9 (σ := Unit) (fun _ w' => p = w') (fun _ => [(1, pt c 0), (49, vB ((((!decide (a0.Key = [])) && (!a)) || ((decide (a0.Kind = 4)) && (!a))) || ((decide (a0.Kind = 5)) && (!decide (a0.Key = [])))))]) ?_ ?_
      ·refine WL.part 40 z (fun V => ?_) (fun V => ?_)
       ·refine WL.gS z z z z (WL.gS z z z z (WL.gS z z z z (WL.gS z z z z (WL.gS z z z z (WL.gS z z z z (WL.gS z z z z (WL.gS z z z z (wY (Y.pick (b := true) z z) z (WL.ren (v' := vB ((((!decide (a0.Key = [])) && (!a)) || ((decide (a0.Kind = 4)) && (!a))) || ((decide (a0.Kind = 5)) && (!decide (a0.Key = []))))) 49 z (congrArg vB (orT V)) ?_)))))))))
        exact nl (At.join () z (.cons z (.cons z .nil)))
       ·refine ug z z (wY (yf fo28_0 z) z (ug z z (wY (yl ty3 z z (q.cell 0 _ z)) z (ug z z (wY (Y.eql_i z z) z (ug z z (wY (ym z) z ?_)))))))
        refine WL.cut 4 (σ := Unit) (fun _ w' => p = w') (fun _ => [(1, pt c 0), (40, vB false), (48, vB ((decide (a0.Kind = 5)) && (!decide (a0.Key = []))))]) ?_ ?_
        ·refine WL.part 44 z (fun W => ?_) (fun W => ?_)
         ·refine ug z z (wY (yf fo28_1 z) z (ug z z (wY (yl ty9 z z (q.cell 1 _ z)) z (ug z z (wY (Y.neq_s (b := []) z z) z (ug z z (wY (Y.pick (b := true) z z) z (WL.ren (v' := vB ((decide (a0.Kind = 5)) && (!decide (a0.Key = [])))) 48 z (congrArg vB (andT W)) ?_))))))))
          exact nl (At.join () z (.cons z (.cons z (.cons z .nil))))
         ·refine WL.gS z z z z (WL.gS z z z z (WL.gS z z z z (ug z z (wY (Y.pick (b := false) z z) z (WL.ren (v' := vB ((decide (a0.Kind = 5)) && (!decide (a0.Key = [])))) 48 z (congrArg vB (andF W)) ?_)))))
          exact nl (At.join () z (.cons z (.cons z (.cons z .nil))))
        ·rintro _ _ rfl
         refine (show WL _ _ _ _ _ [(1, pt c 0), (40, vB false), (48, vB ((decide (a0.Kind = 5)) && (!decide (a0.Key = []))))] _ from ?_)
         refine wY (Y.pick (b := false) z z) z (WL.ren (v' := vB ((((!decide (a0.Key = [])) && (!a)) || ((decide (a0.Kind = 4)) && (!a))) || ((decide (a0.Kind = 5)) && (!decide (a0.Key = []))))) 49 z (congrArg vB (orF V)) ?_)
         exact nl (At.join () z (.cons z (.cons z .nil)))
      ·rintro _ _ rfl
       refine (show WL _ _ _ _ _ [(1, pt c 0), (49, vB ((((!decide (a0.Key = [])) && (!a)) || ((decide (a0.Kind = 4)) && (!a))) || ((decide (a0.Kind = 5)) && (!decide (a0.Key = [])))))] _ from ?_)
       refine nl (th ?_)
       rcases cnd h with ⟨X, h⟩ | ⟨X, h⟩
       ·refine WC.condT' z X (sq (rg (wY (ya z) z (nl (th (rt (At.thenR ?_)))))))
        obtain rfl := some1 h
        have aR : Stp [12] (Lg.O0 (fun _ => False)) w K p := (tr_ (su_ m z) (tr_ (su_ n z) (tr_ (su_ j z) (tr_ (su_ o z) (su_ r z)))))
        exact At.res (.inl z) z (.tmp z .nil) ⟨z, (se_ aR z z)⟩
       ·refine WC.condF' z X (sk (th (sq ?_)))
        obtain ⟨ba, h, Z⟩ := flow1 h
        refine WC.join (σ := Own) (fun x w' => ba = .go () ∧ Stp [] K p x w') (fun x => [(1, pt c 0)]) ?_ ?_
        ·refine sq (rg (wY (yf fo28_0 z) z (wY (yl ty3 z z (q.cell 0 _ z)) z (wY (Y.eql_i z z) z (wY (ym z) z ?_)))))
         refine WL.cut 4 (σ := Unit) (fun _ w' => p = w') (fun _ => [(1, pt c 0), (57, vB ((decide (a0.Kind = 3)) || (decide (a0.Kind = 4))))]) ?_ ?_
         ·refine WL.part 53 z (fun aa => ?_) (fun aa => ?_)
          ·refine WL.gS z z z z (WL.gS z z z z (WL.gS z z z z (wY (Y.pick (b := true) z z) z (WL.ren (v' := vB ((decide (a0.Kind = 3)) || (decide (a0.Kind = 4)))) 57 z (congrArg vB (orT aa)) ?_))))
           exact nl (At.join () z (.cons z (.cons z .nil)))
          ·refine ug z z (wY (yf fo28_0 z) z (ug z z (wY (yl ty3 z z (q.cell 0 _ z)) z (ug z z (wY (Y.eql_i z z) z (wY (Y.pick (b := false) z z) z (WL.ren (v' := vB ((decide (a0.Kind = 3)) || (decide (a0.Kind = 4)))) 57 z (congrArg vB (orF aa)) ?_)))))))
           exact nl (At.join () z (.cons z (.cons z .nil)))
         ·rintro _ _ rfl
          refine (show WL _ _ _ _ _ [(1, pt c 0), (57, vB ((decide (a0.Kind = 3)) || (decide (a0.Kind = 4))))] _ from ?_)
          refine nl (th ?_)
          rcases cnd h with ⟨ab, h⟩ | ⟨ab, h⟩
          ·refine WC.condT' z ab (sq (rg (wY (yf fo28_3 z) z (wY (yl ty9 z z (q.cell 3 _ z)) z ?_))))
           obtain ⟨bo, aS, h⟩ := bnd h
           refine WL.call (vals := [vs a0.To]) kok24 z z (c_ref11_Name aS) ?_
           rintro bk aT ⟨rfl, aU⟩
           obtain ⟨aA, bb, bc, ah⟩ := adoptE K (fun k => 1) aU
           refine wY (Y.not z) z (nl (th ?_))
           rcases cnd h with ⟨ac, h⟩ | ⟨ac, h⟩
           ·refine WC.condT' z ac (sq (rg (wY (ya z) z (nl (th (rt ?_))))))
            have h := outs1 h Z
            refine At.joinR (At.thenR ?_)
            obtain rfl := some1 h
            have aW : Stp [12] (Lg.O0 (fun _ => False)) w aA aT := (tr_ (su_ m z) (tr_ (su_ n z) (tr_ (su_ j z) (tr_ (su_ o z) (tr_ (su_ r z) (su_ ah z))))))
            exact At.res (.inl z) z (.tmp z .nil) ⟨z, (se_ aW z z)⟩
           ·refine WC.condF' z ac (sk ?_)
            exact At.join (σ := Own) aA ⟨go2 h, (su_ ah z)⟩ (.cons z .nil)
          ·refine WC.condF' z ab (sq (rg (wY (yf fo28_3 z) z (wY (yl ty9 z z (q.cell 3 _ z)) z (wY (Y.neq_s (b := []) z z) z (nl (th ?_)))))))
           rcases cnd h with ⟨ad, h⟩ | ⟨ad, h⟩
           ·refine WC.condT' z ad (sq (rg (wY (ya z) z (nl (th (rt ?_))))))
            have h := outs1 h Z
            refine At.joinR (At.thenR ?_)
            obtain rfl := some1 h
            have aX : Stp [12] (Lg.O0 (fun _ => False)) w K p := (tr_ (su_ m z) (tr_ (su_ n z) (tr_ (su_ j z) (tr_ (su_ o z) (su_ r z)))))
            exact At.res (.inl z) z (.tmp z .nil) ⟨z, (se_ aX z z)⟩
           ·refine WC.condF' z ad (sk ?_)
            exact At.join (σ := Own) K ⟨go2 h, (sr_ _ _ _)⟩ (.cons z .nil)
        ·rintro an aY ⟨rfl, D⟩
         replace h := flowK_go Z
         refine (show At _ _ _ [(1, pt c 0)] _ from ?_)
         refine th (sq (sq (rg (wY (yf fo28_0 z) z ?_))))
         have ae := q.st D z
         refine wY (yl ty3 z z (ae.cell 0 _ z)) z (wY (Y.eql_i z z) z (wY (ym z) z ?_))
         obtain ⟨bd, h, aZ⟩ := bnd h
         refine WL.cut 5 (σ := (Bool × Own)) (fun x w' => x.1 = bd ∧ Stp [] an aY x.2 w') (fun x => [(1, pt c 0), (73, vB x.1)]) ?_ ?_
         ·rcases cnd h with ⟨af, h⟩ | ⟨af, h⟩
          ·refine WL.ren 68 z (congrArg vB af) (ug z z (wY (yf fo28_4 z) z (ug z z (wY (yl ty9 z z (ae.cell 4 _ z)) z (ug z z ?_)))))
           obtain ⟨bf, a1, h⟩ := bnd h
           refine WL.call (vals := [vs a0.Val]) kok25 z z (c_ref11_Value a1) ?_
           rintro bl bm ⟨rfl, a2⟩
           obtain ⟨bg, a3, a4, ao⟩ := adoptE an (fun k => 1) a2
           refine ug z z (wY (Y.not z) z (wY (Y.pick (b := true) z z) z ?_))
           exact nl (At.join (σ := (Bool × Own)) ((!bf), bg) ⟨some1 h, (su_ ao z)⟩ (.cons z (.cons z .nil)))
          ·refine WL.ren 68 z (congrArg vB af) (WL.gS z z z z (WL.gS z z z z (WL.gS z z z z (WL.gS z z z z (wY (Y.pick (b := false) z z) z ?_)))))
           exact nl (At.join (σ := (Bool × Own)) (false, an) ⟨some1 h, (sr_ _ _ _)⟩ (.cons z (.cons z .nil)))
         ·rintro ⟨M, aC⟩ F ⟨rfl, t⟩
          replace h := aZ
          try dsimp only at h t
          refine (show WL _ _ _ _ _ [(1, pt c 0), (73, vB M)] _ from ?_)
          refine wY (ym z) z ?_
          refine WL.cut 9 (σ := Unit) (fun _ w' => F = w') (fun _ => [(83, vB (M || ((!decide (a0.Kind = 3)) && (!decide (a0.Val = [])))))]) ?_ ?_
          ·refine WL.part 74 z (fun G => ?_) (fun G => ?_)
           ·refine WL.gS z z z z (WL.gS z z z z (WL.gS z z z z (WL.gS z z z z (WL.gS z z z z (WL.gS z z z z (WL.gS z z z z (WL.gS z z z z (wY (Y.pick (b := true) z z) z (WL.ren (v' := vB (M || ((!decide (a0.Kind = 3)) && (!decide (a0.Val = []))))) 83 z (congrArg vB (orT G)) ?_)))))))))
            exact nl (At.join () z (.cons z .nil))
           ·refine ug z z (wY (yf fo28_0 z) z (ug z z ?_))
            have ai := ae.st t z
            refine wY (yl ty3 z z (ai.cell 0 _ z)) z (ug z z (wY (Y.neq_i z z) z (ug z z (wY (ym z) z ?_))))
            refine WL.cut 4 (σ := Unit) (fun _ w' => F = w') (fun _ => [(74, vB false), (82, vB ((!decide (a0.Kind = 3)) && (!decide (a0.Val = []))))]) ?_ ?_
            ·refine WL.part 78 z (fun H => ?_) (fun H => ?_)
             ·refine ug z z (wY (yf fo28_4 z) z (ug z z (wY (yl ty9 z z (ai.cell 4 _ z)) z (ug z z (wY (Y.neq_s (b := []) z z) z (ug z z (wY (Y.pick (b := true) z z) z (WL.ren (v' := vB ((!decide (a0.Kind = 3)) && (!decide (a0.Val = [])))) 82 z (congrArg vB (andT H)) ?_))))))))
              exact nl (At.join () z (.cons z (.cons z .nil)))
             ·refine WL.gS z z z z (WL.gS z z z z (WL.gS z z z z (ug z z (wY (Y.pick (b := false) z z) z (WL.ren (v' := vB ((!decide (a0.Kind = 3)) && (!decide (a0.Val = [])))) 82 z (congrArg vB (andF H)) ?_)))))
              exact nl (At.join () z (.cons z (.cons z .nil)))
            ·rintro _ _ rfl
             refine (show WL _ _ _ _ _ [(74, vB false), (82, vB ((!decide (a0.Kind = 3)) && (!decide (a0.Val = []))))] _ from ?_)
             refine wY (Y.pick (b := false) z z) z (WL.ren (v' := vB (M || ((!decide (a0.Kind = 3)) && (!decide (a0.Val = []))))) 83 z (congrArg vB (orF G)) ?_)
             exact nl (At.join () z (.cons z .nil))
          ·rintro _ _ rfl
           refine (show WL _ _ _ _ _ [(83, vB (M || ((!decide (a0.Kind = 3)) && (!decide (a0.Val = [])))))] _ from ?_)
           refine nl (th ?_)
           rcases cnd h with ⟨I, h⟩ | ⟨I, h⟩
           ·refine WC.condT' z I (sq (rg (wY (ya z) z (nl (th (rt (At.thenR ?_)))))))
            obtain rfl := some1 h
            have ap : Stp [12] (Lg.O0 (fun _ => False)) w aC F := (tr_ (su_ m z) (tr_ (su_ n z) (tr_ (su_ j z) (tr_ (su_ o z) (tr_ (su_ r z) (tr_ (su_ D z) (su_ t z)))))))
            exact At.res (.inl z) z (.tmp z .nil) ⟨z, (se_ ap z z)⟩
           ·refine WC.condF' z I (sk (th (sq (rg (wY (ya z) z (nl (th (rt ?_))))))))
            obtain rfl := some1 h
            have aq : Stp [12] (Lg.O0 (fun _ => False)) w aC F := (tr_ (su_ m z) (tr_ (su_ n z) (tr_ (su_ j z) (tr_ (su_ o z) (tr_ (su_ r z) (tr_ (su_ D z) (su_ t z)))))))
            exact At.res (.inl z) z (.tmp z .nil) ⟨z, (se_ aq z z)⟩
theorem c_law33_RelabelChecks {A : Nat → Prop} {a0 : List api_Rule} {v0 : Value} {w : World} (hs0 : Sl rep_api_Rule w A v0 a0) (hG0 : CellsAt w 0 0 [vi 0, vi 0]) (hGA0 : A 0) {r0 : Bool} (h : law33_RelabelChecks a0 = some r0) : Rets Tryd.prog 3 [v0] w (fun v w' => v = vB r0 ∧ Ext w w') := by
 unfold law33_RelabelChecks at h
 refine Rets.enter Tryd.func3 z z ?_
 have bk : Sl rep_api_Rule w (imm (Lg.O0 A)) v0 a0 := (Sl.start hs0)
 have ab : CAt [0, 1] (Lg.O0 A) w 0 0 [vi 0, vi 0] := CAt.glob hG0 (if_pos hGA0)
 refine (show WC _ _ _ _ [(0, v0)] _ from ?_)
 refine sq (rg (wY (ya z) z (nl (th (sq (sq (rg ?_)))))))
 obtain ⟨ct, bl, h⟩ := bnd h
 refine WL.call (vals := []) kok7 z z (c_law33_awake (A := fun _ => True) ab.at_ trivial bl) ?_
 rintro ci bm ⟨rfl, bn⟩
 obtain ⟨bg, bX, bY, j⟩ := adoptE (Lg.O0 A) (fun k => 1) bn
 refine wY (Y.not z) z (nl (th ?_))
 rcases cnd h with ⟨ac, h⟩ | ⟨ac, h⟩
 ·refine WC.condT' z ac (sq (rg (wY (ya z) z (nl (th (rt (At.thenR ?_)))))))
  obtain rfl := some1 h
  have bo : Stp [] (Lg.O0 A) w bg bm := (su_ j z)
  exact At.res (.inl z) z (.tmp z .nil) ⟨z, (se_ bo z z)⟩
 ·refine WC.condF' z ac (sk (th (sq (sq (rg (wY (ym z) z ?_))))))
  have J := bk.i j z z
  obtain ⟨cu, bp, h⟩ := bnd h
  refine WL.call (vals := [v0]) kok8 z z (c_ref33_Few (A := fun _ => True) (Sl.all J) bp) ?_
  rintro cj H ⟨rfl, bq⟩
  obtain ⟨U, bZ, b0, a⟩ := adoptE bg (fun k => 1) bq
  refine wY (Y.not z) z (nl (th ?_))
  rcases cnd h with ⟨ad, h⟩ | ⟨ad, h⟩
  ·refine WC.condT' z ad (sq (rg (wY (ya z) z (nl (th (rt (At.thenR ?_)))))))
   obtain rfl := some1 h
   have br : Stp [] (Lg.O0 A) w U H := (tr_ (su_ j z) (su_ a z))
   exact At.res (.inl z) z (.tmp z .nil) ⟨z, (se_ br z z)⟩
  ·refine WC.condF' z ad (sk (th (sq (rg (wY (ya z) z (nl (th (sq (rg ?_)))))))))
   refine wY (ya z) z (nl (th (sq ?_)))
   obtain ⟨b1, h, bs⟩ := bnd h
   refine WC.join (σ := (Int × Int)) (fun x w' => (x.1, x.2) = b1 ∧ H = w') (fun x => [(0, v0), (3, vi x.1), (4, vi x.2)]) ?_ ?_
   ·refine sq (rg (wY (ym z) z ?_))
    have bt := J.i a z z
    refine wY (Y.len ty22 z bt) z (wY (Y.gtr_i z z) z (nl (th ?_)))
    rcases cnd h with ⟨ae, h⟩ | ⟨ae, h⟩
    ·refine WC.condT' z ae (sq (rg (wY (ya z) z (nl (th (rg (wY (ya z) z (nl ?_))))))))
     exact At.join (σ := (Int × Int)) (64, 4) ⟨some1 h, z⟩ (.cons z (.cons z (.cons z .nil)))
    ·refine WC.condF' z ae (sk ?_)
     exact At.join (σ := (Int × Int)) (0, 0) ⟨some1 h, z⟩ (.cons z (.cons z (.cons z .nil)))
   ·rintro ⟨au, V⟩ _ ⟨rfl, rfl⟩
    replace h := bs
    try dsimp only at h
    refine (show At _ _ _ [(0, v0), (3, vi au), (4, vi V)] _ from ?_)
    refine th (sq (sq (rg (wY (ya z) z (nl (th ?_))))))
    obtain ⟨b2, h, av⟩ := flow1 h
    refine WC.join (σ := (Int × Int × Own)) (fun x w' => b2 = .go (x.1, x.2.1) ∧ Stp [] U H x.2.2 w') (fun x => [(0, v0), (3, vi x.1), (4, vi x.2.1)]) ?_ ?_
    ·refine WC.block ?_
     obtain ⟨bh, h, ax⟩ := flow1 h
     obtain ⟨bi, h⟩ := loop_some h
     refine WC.joinB 0 (σ := (Int × Int × Own)) (fun x w' => bh = .go (x.1, x.2.1) ∧ Stp [] U H x.2.2 w') (fun x => [(0, v0), (3, vi x.1), (4, vi x.2.1)]) ?_ ?_
     ·refine WC.loop (σ := (Int × Int × Int × Own)) (fun x k w' => loopN k (law33_RelabelChecks_lp1 a0) (x.1, x.2.1, x.2.2.1) = some bh ∧ Stp [] U H x.2.2.2 w') (fun x => [(0, v0), (3, vi x.1), (4, vi x.2.1), (5, vi x.2.2.1)]) (au, V, 0, U) bi (.cons z (.cons z (.cons z (.cons z .nil)))) ⟨h, (sr_ _ _ _)⟩ ?_
      rintro ⟨K, c, F, bj⟩ bi bu ⟨h, q⟩
      obtain ⟨b3, cv, rfl, h, af⟩ := rnd1 h
      unfold law33_RelabelChecks_lp1 at h
      try dsimp only at h q
      refine (show WC _ _ _ _ [(0, v0), (3, vi K), (4, vi c), (5, vi F)] _ from ?_)
      refine sq (sq (rg (wY (ym z) z (wY (ym z) z ?_))))
      have ah := (J.i a z z).i q z z
      refine wY (Y.len ty22 z ah) z (wY (Y.lss_i z z) z (wY (ym z) z ?_))
      refine WL.cut 3 (σ := Unit) (fun _ w' => bu = w') (fun _ => [(0, v0), (3, vi K), (4, vi c), (5, vi F), (24, vB ((decide (F < (a0.length : Int))) && (decide (c = 0))))]) ?_ ?_
      ·refine WL.part 21 z (fun ai => ?_) (fun ai => ?_)
       ·refine ug z z (wY (ym z) z (ug z z (wY (Y.eql_i z z) z (wY (Y.pick (b := true) z z) z (WL.ren (v' := vB ((decide (F < (a0.length : Int))) && (decide (c = 0)))) 24 z (congrArg vB (andT ai)) ?_)))))
        exact nl (At.join () z (.cons z (.cons z (.cons z (.cons z (.cons z .nil))))))
       ·refine WL.gS z z z z (WL.gS z z z z (wY (Y.pick (b := false) z z) z (WL.ren (v' := vB ((decide (F < (a0.length : Int))) && (decide (c = 0)))) 24 z (congrArg vB (andF ai)) ?_)))
        exact nl (At.join () z (.cons z (.cons z (.cons z (.cons z (.cons z .nil))))))
      ·rintro _ _ rfl
       refine (show WL _ _ _ _ _ [(0, v0), (3, vi K), (4, vi c), (5, vi F), (24, vB ((decide (F < (a0.length : Int))) && (decide (c = 0))))] _ from ?_)
       refine nl (th ?_)
       rcases cnd h with ⟨aj, h⟩ | ⟨aj, h⟩
       ·refine WC.condT' z aj (sk (th (sq (WC.block (sq (rg (wY (ym z) z (wY (ym z) z ?_))))))))
        obtain ⟨m, bx, h⟩ := bnd h
        obtain ⟨cw, cb, cc, ck, bz, bA, bB, ak, aF, bC⟩ := Sl.at2 ah bx
        obtain ⟨_, _, rfl, rfl, ⟨_, _, rfl, rfl, ⟨_, _, rfl, rfl, ⟨_, _, rfl, rfl, rfl⟩⟩⟩⟩ := aF
        replace ak : CellsAt _ _ _ [vi m.Kind, vs m.Key, vs m.Glob, vs m.To, vs m.Val] := ak
        have aG := CAt.imm ak bC
        refine wY (Y.indexAddr ty22 ty28 z bz z bA bB) z (wY (yL ty28 z z aG.at_ z) z ?_)
        obtain ⟨b4, bD, h⟩ := bnd h
        refine WL.call (vals := [ag [vi m.Kind, vs m.Key, vs m.Glob, vs m.To, vs m.Val]]) kok9 z z (c_ref33_Check (a0 := m) bD) ?_
        rintro cl cm ⟨rfl, bE⟩
        obtain ⟨b5, b6, b7, G⟩ := adoptE bj (fun k => 1) bE
        refine wY (ya z) z (nl (th (sq (rg (wY (ym z) z (wY (ya z) z (nl (th (sq ?_)))))))))
        refine rg (wY (ym z) z (wY (ym z) z ?_))
        obtain ⟨n, bF, h⟩ := bnd h
        have aH := ah.i G z z
        obtain ⟨cx, b8, cd, cn, bG, bH, bI, al, aI, aJ⟩ := Sl.at2 aH bF
        obtain ⟨_, _, rfl, rfl, ⟨_, _, rfl, rfl, ⟨_, _, rfl, rfl, ⟨_, _, rfl, rfl, rfl⟩⟩⟩⟩ := aI
        replace al : CellsAt _ _ _ [vi n.Kind, vs n.Key, vs n.Glob, vs n.To, vs n.Val] := al
        have ay := CAt.imm al aJ
        refine wY (Y.indexAddr ty22 ty28 z bG z bH bI) z (wY (yL ty28 z z ay.at_ z) z ?_)
        have aN := (((ab.st j z).st a z).st q z).st G z
        obtain ⟨co, aO, h⟩ := bnd h
        refine WL.call (vals := [ag [vi n.Kind, vs n.Key, vs n.Glob, vs n.To, vs n.Val]]) kok10 z z (c_relabel_Check (A := fun _ => True) (a0 := n) aN.at_ trivial aO) ?_
        rintro ce aP ⟨rfl, aQ⟩
        obtain ⟨az, bR, bS, W⟩ := adoptE b5 (fun k => 1) aQ
        refine wY (ym z) z (wY (Y.neq_i z z) z (nl (th ?_)))
        rcases cnd h with ⟨M, h⟩ | ⟨M, h⟩
        ·refine WC.condT' z M (sq (rg (wY (ya z) z (nl (th (rt (At.inBlockR (At.thenR (At.loopR ?_)))))))))
         have h := outr1 h af ax
         refine At.joinBR (At.inBlockR ?_)
         have h := outs1 h av
         refine At.joinR (At.thenR ?_)
         obtain rfl := some1 h
         have aR : Stp [] (Lg.O0 A) w az aP := (tr_ (su_ j z) (tr_ (su_ a z) (tr_ (su_ q z) (tr_ (su_ G z) (su_ W z)))))
         exact At.res (.inl z) z (.tmp z .nil) ⟨z, (se_ aR z z)⟩
        ·refine WC.condF' z M (sk (At.inBlock (th (rg (wY (ym z) z (wY (Y.add_i z z) z ?_))))))
         obtain ⟨bJ, aS, h⟩ := lt1 h
         refine WL.yE (ya z) (congrArg vi aS.symm) z (nl ?_)
         exact At.round (F, b4, bJ, az) b3 (Nat.lt_succ_self _) ⟨next1 h af, (tr_ (su_ q z) (tr_ (su_ G z) (su_ W z)))⟩ (.cons z (.cons z (.cons z (.cons z .nil))))
       ·refine WC.condF' z aj (WC.exit (At.thenX (At.loopX ?_)))
        exact At.hitB (σ := (Int × Int × Own)) (K, c, bj) ⟨brk1 h af, (su_ q z)⟩ (.cons z (.cons z (.cons z .nil)))
     ·rintro ⟨aA, X, b9⟩ cq ⟨rfl, aq⟩
      replace h := flowK_go ax
      try dsimp only at h aq
      refine (show At _ _ _ [(0, v0), (3, vi aA), (4, vi X)] _ from ?_)
      refine At.inBlockHit ?_
      exact At.join (σ := (Int × Int × Own)) (aA, X, b9) ⟨go2 h, (su_ aq z)⟩ (.cons z (.cons z (.cons z .nil)))
    ·rintro ⟨am, o, ca⟩ cr ⟨rfl, r⟩
     replace h := flowK_go av
     try dsimp only at h r
     refine (show At _ _ _ [(0, v0), (3, vi am), (4, vi o)] _ from ?_)
     refine th (sq (rg (wY (ym z) z ?_)))
     have ar := (J.i a z z).i r z z
     have aX := ((ab.st j z).st a z).st r z
     obtain ⟨⟨P, aC, p⟩, aY, h⟩ := bnd h
     refine WL.call (vals := [v0]) kok11 z z (c_relabel_Compile (A := fun _ => True) (Sl.all ar) aX.at_ trivial aY) ?_
     rintro cf t ⟨an, rfl, aZ, ao⟩
     obtain ⟨C, bT, I, D⟩ := adoptE ca (labP an 11) aZ
     refine wY (ym z) z (wY (yx z z) z (wY (yx z z) z (wY (yx z z) z (wY (ya z) z (wY (ya z) z (wY (ya z) z (nl (th (sq ?_)))))))))
     refine sq (rg (wY (ym z) z (wY (ym z) z (wY (Y.neq_i z z) z (wY (ym z) z ?_)))))
     refine WL.cut 6 (σ := Unit) (fun _ w' => t = w') (fun _ => [(0, v0), (3, vi am), (6, an), (7, vi aC), (55, vB ((!decide (p = o)) || (!decide (P.isNone = (!decide (p = 0))))))]) ?_ ?_
     ·refine WL.part 49 z (fun Q => ?_) (fun Q => ?_)
      ·refine WL.gS z z z z (WL.gS z z z z (WL.gS z z z z (WL.gS z z z z (WL.gS z z z z (wY (Y.pick (b := true) z z) z (WL.ren (v' := vB ((!decide (p = o)) || (!decide (P.isNone = (!decide (p = 0)))))) 55 z (congrArg vB (orT Q)) ?_))))))
       exact nl (At.join () z (.cons z (.cons z (.cons z (.cons z (.cons z .nil))))))
      ·refine ug z z (wY (ym z) z (ug z z (wY (Y.eql_opt ty29.u z z ao (fun d hd => by obtain ⟨_, _, e, _⟩ := hd; exact ⟨_, e⟩)) z (ug z z (wY (ym z) z (ug z z (wY (Y.neq_i z z) z (ug z z (wY (Y.neqB z z ty4.u) z ?_)))))))))
       refine wY (Y.pick (b := false) z z) z (WL.ren (v' := vB ((!decide (p = o)) || (!decide (P.isNone = (!decide (p = 0)))))) 55 z (congrArg vB (orF Q)) ?_)
       exact nl (At.join () z (.cons z (.cons z (.cons z (.cons z (.cons z .nil))))))
     ·rintro _ _ rfl
      refine (show WL _ _ _ _ _ [(0, v0), (3, vi am), (6, an), (7, vi aC), (55, vB ((!decide (p = o)) || (!decide (P.isNone = (!decide (p = 0))))))] _ from ?_)
      refine nl (th ?_)
      rcases cnd h with ⟨R, h⟩ | ⟨R, h⟩
      ·refine WC.condT' z R (sq (rg (wY (ya z) z (nl (th (rt (At.thenR ?_)))))))
       obtain rfl := some1 h
       have a1 : Stp [] (Lg.O0 A) w C t := (tr_ (su_ j z) (tr_ (su_ a z) (tr_ (su_ r z) (su_ D z))))
       exact At.res (.inl z) z (.tmp z .nil) ⟨z, (se_ a1 z z)⟩
      ·refine WC.condF' z R (sk (th (sq (sq (rg (wY (ym z) z (wY (Y.eql_opt ty29.u z z ao (fun d hd => by obtain ⟨_, _, e, _⟩ := hd; exact ⟨_, e⟩)) z (nl (th ?_)))))))))
       rcases cnd h with ⟨S, h⟩ | ⟨S, h⟩
       ·refine WC.condT' z S (sq (rg (wY (ym z) z (wY (ym z) z (wY (Y.eql_i z z) z ?_)))))
        obtain ⟨cs, a2, h⟩ := lt1 h
        refine WL.yE (ya z) (congrArg vB a2.symm) z (nl (th (rt (At.thenR ?_))))
        obtain rfl := some1 h
        have a3 : Stp [] (Lg.O0 A) w C t := (tr_ (su_ j z) (tr_ (su_ a z) (tr_ (su_ r z) (su_ D z))))
        exact At.res (.inl z) z (.tmp z .nil) ⟨z, (se_ a3 z z)⟩
       ·refine WC.condF' z S (sk (th (sq (rg (wY (ym z) z (wY (Y.eql_i z z) z (wY (ym z) z ?_)))))))
        obtain ⟨bK, h, a4⟩ := bnd h
        refine WL.cut 6 (σ := (Bool × Own)) (fun x w' => x.1 = bK ∧ Stp [] C t x.2 w') (fun x => [(69, vB x.1)]) ?_ ?_
        ·rcases cnd h with ⟨T, h⟩ | ⟨T, h⟩
         ·refine WL.ren 63 z (congrArg vB T) (ug z z (wY (ym z) z (ug z z ?_)))
          obtain ⟨aD, a5, h⟩ := bnd h
          obtain ⟨ap, aE, rfl, a6, bL⟩ := OptP.some ao a5
          have a7 : Sl rep_relabel_rule t (frs C) aE aD.l := Sl.adoptF bL (fun k hk => ⟨hk.1, labP_ne hk.2⟩) I
          have a8 : Blk 11 C t ap 71 [aE] := Blk.new a6 I (labP_at ap 11)
          obtain ⟨bM, a9, h⟩ := bnd h
          refine WL.call (vals := [pt ap 0]) kok12 z z (c_relabel_Rules_Len (A := fun _ => True) (a0 := aD) (Sl.all a7) a8.blk trivial a9) ?_
          rintro cg ch ⟨rfl, ba⟩
          obtain ⟨bO, bU, bW, Z⟩ := adoptE C (fun k => 1) ba
          refine ug z z (wY (ym z) z (ug z z ?_))
          have bc := (ar.i D z z).i Z z z
          refine wY (Y.len ty22 z bc) z (ug z z (wY (Y.eql_i z z) z (wY (Y.pick (b := true) z z) z ?_)))
          exact nl (At.join (σ := (Bool × Own)) (decide (bM = (a0.length : Int)), bO) ⟨some1 h, (su_ Z z)⟩ (.cons z .nil))
         ·refine WL.ren 63 z (congrArg vB T) (WL.gS z z z z (WL.gS z z z z (WL.gS z z z z (WL.gS z z z z (WL.gS z z z z (wY (Y.pick (b := false) z z) z ?_))))))
          exact nl (At.join (σ := (Bool × Own)) (false, C) ⟨some1 h, (sr_ _ _ _)⟩ (.cons z .nil))
        ·rintro ⟨bP, bQ⟩ bd ⟨rfl, aa⟩
         replace h := a4
         try dsimp only at h aa
         refine (show WL _ _ _ _ _ [(69, vB bP)] _ from ?_)
         refine wY (ya z) z (nl (th (rt ?_)))
         obtain rfl := some1 h
         have bf : Stp [] (Lg.O0 A) w bQ bd := (tr_ (su_ j z) (tr_ (su_ a z) (tr_ (su_ r z) (tr_ (su_ D z) (su_ aa z)))))
         exact At.res (.inl z) z (.tmp z .nil) ⟨z, (se_ bf z z)⟩
end Go.Lg
